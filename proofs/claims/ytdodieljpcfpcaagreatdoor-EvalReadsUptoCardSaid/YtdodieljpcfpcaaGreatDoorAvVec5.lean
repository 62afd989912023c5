/- Joined texts. -/
import Derived.Laws.MakeOwn
import Derived.Test.YtdodieljpcfpcaaGreatDoorAvAppend
set_option linter.all false
open List (drop_drop eq_nil_of_length_eq_zero getElem?_drop mem_append mem_of_getElem?)
open Nat (add_assoc add_mul eq_of_beq_eq_true mul_le_mul_right succ_mul zero_le)
open Array (getElem?_toList length_toList toList_map)
open Go Go.Av
variable{r:A9}{s0:AE}{x y:AV}{p:Addr}{args:Array Operand}{a:Array Value}{b:Bool}{f:FuncId}{n nh:Int}{xs ys:List AV}{e:List Field}{T':List Tok}{Vs:List Value}{k z at_ lo X j:Nat}{σ':St}{ti te:TI}{t:Tk}{T U:TypeId}{u v:Value}{w':World}
namespace Go.Av
open Go
variable [AK]
def j7(s:AE):List Operand->(List AV->Option (List AV))->Option (List AV)
  |[],k=>k []
  |x::xs,k=>match ev? s x with
    |some v=>j7 s xs λr=>k (v::r)
    |none=>none
def g6{s:AE}:∀(xs:List Operand) (k:List AV->Option (List AV)) (r:List AV),j7 s xs k=some r->k (xs.map (ev s))=some r
  |[],k,r,h=>h
  |x::xs,k,r,h=>by
    unfold j7 at h;cases e:ev? s x with
    |none=>rw[e]at h;cases h
    |some v=>simp only[e]at h;have:=g6 xs _ r h;rw[List.map_cons,pR e];exact this
def jF{g:Gh}{w:World}{s:AE}{a:Act}:∀xs:List Operand,(∀x∈xs,Ab g w (ev s x) (a.eval x))->AL g w (xs.map (ev s)) (xs.map a.eval)
  |[],_=>rfl
  |x::xs,h=>⟨_,_,rfl,h x Wa,jF xs λy hy=>h y (by simp[hy])⟩
theorem s9{P:Program}(h:Az P f)(args:Array Value)(w:World):(callFunc f args).run P w = .ok (.enter f args) w:=by
  obtain⟨fn,h1,h2,h3⟩:=h;unfold callFunc;have a:¬fn.name = "runtime.NumGoroutine" :=by simpa using h2
  have b:¬fn.body=none:=WN
  simp_all
section rules
variable {P:Program} {A:Array Oper} {G:Bool} {K:AX->AE->St->Prop} {C:List Oper} {I:List Ak} {s:AE} {H:St}
variable {d:Option Tmp} {R:TypeId} {D:String} {S:Array Edge}
theorem kD(h:Az P f){p:Array TypeId}(a:Act)(w:World):
    (execOp a.eval ⟨d, .call ⟨.value (.func f),args,p⟩,R,D,S,none⟩).run P w = .ok (.enter f (args.map a.eval)) w:=by simp only[execOp,resolve,Act.eval,Deferred.ofValue,Sem.run_bind,Sem.run_pure,Result.andThen,invoke];simpa using s9 h (args.map a.eval) w
def aH{p:Array TypeId}{J vals': List AV}{r:AV}(hp:AN P f vals' r)(k:AD P A G K C (.pure::I) (iJ d r s) H)(ha:j7 s args.toList some=some J:=by exact rfl)(hw:AA J vals':= by exact aD _):AD P A G K (⟨d, .call ⟨.value (.func f),args,p⟩,R,D,S,none⟩::C) I s H:=
  bT (t := .pure) rfl ⟨rfl,λτ=>by
    intro g w a next Q c l hn;have hv:args.toList.map (ev s)=J:=Option.some.inj (g6 _ _ _ ha);have hl:=jF (g:=g) (w:=w) (s:=s) (a:=a) args.toList (λx Y=>l x Wn);rw[hv]at hl;have i:AL ⟨[],[],g.im⟩ w vals' (args.map a.eval).toList:=by rw[toList_map];exact j6 (bx:=g.bx) (tk:=g.tk) _ _ hp.2.1 (hw _ _ _ hl)
    unfold Oper.wp;rw[kD hp.1 a w];refine(hp.2.2 g.im w _ c.imlt c.gl i).mono ?_;rintro e w' ⟨b,h1,h2,u,rfl,h3⟩;obtain⟨h4,j⟩:=vK c h1 h2;exact hn u w' _ h4 j (Ab.mono (g:=⟨[],[],b⟩) (w:=w') (g':= ⟨g.bx,g.tk,b⟩) (w':= w') ⟨λ_ _ h=>⟨h,rfl⟩,λ_ _ h=>Wm,λ_ _ h=>Wm⟩ _ _ h3)⟩ k
def O3{d:Tmp}{x:Operand}{i:Nat}{vs:List AV}{v:AV}(Y:ev? s x=some (.tup vs))(hv:vs[i]? =some v)(k:AD P A G K C (.pure::I) ((d,v)::s) H):
    AD P A G K (⟨some d, .extract x i,R,D,S,none⟩::C) I s H:=
  bT rfl (eZ λg w a c=>by obtain⟨us,e,hl⟩:=op1 Y Wd c;obtain⟨u,b,hr⟩:=hl.get hv;rw[getElem?_toList]at b;exact⟨u,by simp[execOp,e,Instr.extract,b],hr⟩) k
def tA{d:Tmp}{fn:Fn}{first cap:Array Operand}{fs cs:List AV}(hf:j7 s first.toList some=some fs)(O:j7 s cap.toList some=some cs)(k:AD P A G K C (.pure::I) ((d, .fn fn fs cs)::s) H):
    AD P A G K (⟨some d, .makeFunc fn first cap,R,D,S,none⟩::C) I s H:=
  bT rfl (eZ λg w a b=>by
    have h1:first.toList.map (ev s)=fs:=Option.some.inj (g6 _ _ _ hf);have h2:cap.toList.map (ev s)=cs:=Option.some.inj (g6 _ _ _ O);refine⟨.func fn (first.map a.eval) (cap.map a.eval),by simp[execOp,Instr.makeFunc],⟨_,_,rfl, ?_, ?_⟩⟩
    · rw[<-h1,toList_map];exact jF _ λx Y=>b x (by simpa [Op.operands]using .inl WH)
    · rw[<-h2,toList_map];exact jF _ λx Y=>b x (by simpa [Op.operands]using .inr WH)) k
theorem pQ{x:Operand}(h:Az P f){p:Array TypeId}(a:Act)(w:World)(first cap:Array Value)(Y:a.eval x = .func (.func f) first cap):
    (execOp a.eval ⟨d, .call ⟨.value x,args,p⟩,R,D,S,none⟩).run P w = .ok (.enter f (first++args.map a.eval++cap)) w:=by simp only[execOp,resolve,Y,Deferred.ofValue,Sem.run_bind,Sem.run_pure,Result.andThen,invoke];exact s9 h _ w
def Ce{x:Operand}{p:Array TypeId}{J b:List AV}{r:AV}(hp:AN P f b r)(hw:AA J b)(k:AD P A G K C (.pure::I) (iJ d r s) H)(Y:ev? s x=some (.fn (.func f) [] []):=by exact rfl)(ha:j7 s args.toList some=some J:=by exact rfl):AD P A G K (⟨d, .call ⟨.value x,args,p⟩,R,D,S,none⟩::C) I s H:=
  bT (t := .pure) rfl ⟨rfl,λτ=>by
    intro g w a next Q i v hn;have hv:args.toList.map (ev s)=J:=Option.some.inj (g6 _ _ _ ha);obtain⟨y,cs,o,l,m⟩:=op1 Y Wj v;have n:y = #[]:=by have:=l.length;simpa using this
    have j:cs = #[]:=by have:=m.length;simpa using this
    subst n;subst j;have hl:=jF (g:=g) (w:=w) (s:=s) (a:=a) args.toList (λx Y=>v x Wn);rw[hv]at hl;have q:AL ⟨[],[],g.im⟩ w b (#[]++args.map a.eval ++ #[]).toList:=by simp only[Array.empty_append,Array.append_empty,toList_map];exact j6 (bx:=g.bx) (tk:=g.tk) _ _ hp.2.1 (hw _ _ _ hl)
    unfold Oper.wp;rw[pQ hp.1 a w #[] #[] o];refine(hp.2.2 g.im w _ i.imlt i.gl q).mono ?_;rintro e w' ⟨c,h1,h2,u,rfl,h3⟩;obtain⟨h4,z⟩:=vK i h1 h2;exact hn u w' _ h4 z (Ab.mono (g:=⟨[],[],c⟩) (w:=w') (g':= ⟨g.bx,g.tk,c⟩) (w':= w') ⟨λ_ _ h=>⟨h,rfl⟩,λ_ _ h=>Wm,λ_ _ h=>Wm⟩ _ _ h3)⟩ k
def bnd?(s:AE)(o:Option Operand)(dflt:Int):Option Int:=
  match o with
  |none=>some dflt
  |some x=>match ev? s x with
    |some (.int _ n)=>some n
    |_=>none
def Fs{x:Operand}{a:Int}(h:bnd? s (some x) a=some n):∃k,ev? s x=some (.int k n):=by
  unfold bnd? at h;cases e:ev? s x with
  |none=>simp[e]at h
  |some v=>
    cases v with
    |int k m=>simp[e]at h;subst h;exact⟨k,rfl⟩
    |_=>simp[e]at h
def I2[Lay P]{d:Tmp}{x:Operand}{lo X:Option Operand}{tk:Tk}{nl:Int}(l h:Nat)(hT:ty? P T=some ti)(hk:ti.kind = .slice)(hE:ty? P ti.elem=some te)
    (Y:ev? s x=some (.slice xs tk)) (hl:bnd? s lo 0=some nl) (hh:bnd? s X xs.length=some nh) (el:nl=(l:Int)) (eh:nh=(h:Int)) (h1:l<=h) (h2:h<=xs.length) (hf:l=0\/eQ te.agg te.size xs=true)
    (k:AD P A G K C (.pure::I) ((d, .slice ((xs.take h).drop l) .no)::s) H):AD P A G K (⟨some d, .slice T x lo X none,R,D,S,none⟩::C) I s H:=
  bT rfl (eZ λg w a ho=>by
    obtain⟨p,cap,sz,Vs,e,c1,c2,c3,m,c5,c6⟩:=op1 Y Wd ho
    obtain⟨af,dd,z0,t1,t2,t3,t4,_⟩:=(eK hT).ex
    have hd:∃e,dd = .slice e:=Wi
    obtain⟨a6,rfl⟩:=hd
    have a8:a6=ti.elem:=t4
    subst a8
    have am:Vs.length=xs.length:=m.length
    have a0:(execOp a.eval ⟨some d, .slice T x lo X none,R,D,S,none⟩).run P w = .ok (.value (.slice (if cap=l then p else p.map (·.add (l * te.size))) (h-l) (cap-l))) w:=by
      have v:∀y,X=some y->(Instr.sliceBound (a.eval y) cap .sliceAcap).run P w = .ok h w:=by
        intro y o
        subst o
        obtain⟨ik,hy⟩:=Fs hh
        have r:a.eval y = .int ik nh:=op1 hy Wd ho
        have hb:0<=(h:Int)/\(h:Int)<=(cap:Int):=om
        simp only[Instr.sliceBound,r,asIntOf,eh,Sem.run_bind,Sem.run_pure,Result.andThen]
        rw[if_pos hb]
        simp
      have aa:∀y,lo=some y->(Instr.sliceBound (a.eval y) h .sliceB).run P w = .ok l w:=by
        intro y o
        subst o
        obtain⟨ik,hy⟩:=Fs hl
        have r:a.eval y = .int ik nl:=op1 hy Wd ho
        have hb:0<=(l:Int)/\(l:Int)<=(h:Int):=om
        simp only[Instr.sliceBound,r,asIntOf,el,Sem.run_bind,Sem.run_pure,Result.andThen]
        rw[if_pos hb]
        simp
      have h0:lo=none->l=0:=by
        intro e0
        subst e0
        have:(0:Int)=nl:=Option.some.inj hl
        omega
      have t:X=none->h=Vs.length:=by
        intro e0
        subst e0
        have:(xs.length:Int)=nh:=Option.some.inj hh
        omega
      cases lo with
      |none=>
        have a9:=h0 rfl
        subst a9
        cases X with
        |none=>
          have j:=t rfl
          subst j
          simp[execOp,e,Instr.sliceAt,run_underlying t2,Result.andThen,Instr.slice,Instr.sliceBounds,cZ hE]
        |some y=>
          have:=v y rfl
          simp[execOp,e,Instr.sliceAt,run_underlying t2,Result.andThen,Instr.slice,Instr.sliceBounds,cZ hE,this]
      |some z=>
        have hz:=aa z rfl
        cases X with
        |none=>
          have j:=t rfl
          subst j
          simp[execOp,e,Instr.sliceAt,run_underlying t2,Result.andThen,Instr.slice,Instr.sliceBounds,cZ hE,hz]
        |some y=>
          have:=v y rfl
          simp[execOp,e,Instr.sliceAt,run_underlying t2,Result.andThen,Instr.slice,Instr.sliceBounds,cZ hE,hz,this]
    refine⟨_,a0, ?_⟩
    have f:((Vs.take h).drop l).length=h-l:=Wh
    have n:l * te.size=l * sz\/(Vs.take h).drop l=[]:=by
      rcases hf with rfl|hf
      · left;simp
      · cases Vs with
        |nil=>right;simp
        |cons V Vs'=>
          left
          have hV:=(o6 hf m V Wa).1
          cases p with
          |none=>have:=(c5 rfl).1;cases this
          |some q=>rw[<-((c6 q rfl).2 0 V rfl).1,hV]
    refine⟨_,cap-l,sz,(Vs.take h).drop l,by rw[f],by rw[f];omega,om,trivial,(m.take h).drop l, ?_, ?_⟩
    · intro hn
      have hp:p=none:=by
        cases p with
        |none=>rfl
        |some q=>by_cases c:cap=l<;>simp[c]at hn
      have a7:=(c5 hp).1
      have ak:=(c5 hp).2
      subst a7
      exact⟨Wa,om⟩
    · intro q c
      cases p with
      |none=>simp at c
      |some q0=>
        obtain⟨m1,m2⟩:=c6 q0 rfl
        by_cases u:cap=l
        · rw[if_pos u]at c
          cases c
          have b:(Vs.take h).drop l=[]:=by apply eq_nil_of_length_eq_zero;rw[f];omega
          rw[b]
          exact⟨.inr rfl,λi V X=>XI⟩
        · rw[if_neg u]at c
          simp only[Option.map_some,Option.some.injEq]at c
          rcases n with n|b
          · rw[n]at c
            rcases m1 with m1|m1
            · obtain⟨qb,qo,qs⟩:=q0
              cases (show qs=none from m1)
              rw[eO]at c
              subst c
              refine⟨.inl rfl,λi V X=> ?_⟩
              rw[getElem?_drop]at X
              have hi': Vs[l+i]? =some V:=by
                rw[List.getElem?_take]at X
                split at X
                · exact X
                · cases X
              obtain⟨n1,n2⟩:=m2 (l+i) V hi'
              refine⟨n1, ?_⟩
              have:qo+(l+i) * sz=qo+l * sz+i * sz:=Zj
              rw[<-this]
              exact n2
            · subst m1
              exact⟨.inr Wa,λi V X=>XI⟩
          · rw[b]
            exact⟨.inr rfl,λi V X=>XI⟩) k
end rules
theorem AC.eq(h:x=y):AC x y:=h▸aG x
theorem aP{t:Nat}{s:AE}{v r:AV}(h:lk? s t=some v)(hw:AC v r):∃a,Av.ret (gK s [t]) = .ret a/\AC a r:=
  ⟨_,rfl,by rw[show gK s [t]=v from g9 h];exact hw⟩
def res?(P:Program)[Lay P](s:AE)(H:St):ResultVar->Option AV
  | .tmp t=>some (lk s t)
  | .cell t T=>match lk? s t,ty? P T with
    |some (.ptr i off),some ti=>match H.B[i]? with
      |some (.cells cs)=>cut ti.agg ti.size off cs
      |_=>none
    |_,_=>none
def resK?(P:Program)[Lay P](s:AE)(H:St):List ResultVar->(List AV->Option AV)->Option AV
  |[],k=>k []
  |r::rs,k=>match res? P s H r with
    |some v=>resK? P s H rs λl=>k (v::l)
    |none=>none
def nK:List AV->Option AV
  |[v]=>some v
  |vs=>some (.tup vs)
def Qv(vs:List Value):Value:=match vs with
  |[v]=>v
  |vs => .tuple vs.toArray
section
variable {P:Program} [Lay P]
def J6(tmps:Array Value):ResultVar->Sem Value
  | .tmp t=>pure (tmps.getD t undef)
  | .cell a t=>do loadVar t (<-asAddr (tmps.getD a undef))
def Qw{g:Gh}{w:World}{s:AE}{H:St}(X:Inv g H w)(hs:A3 g w s a){r:ResultVar}{v:AV}(h:res? P s H r=some v):
    ∃V,Ab g w v V/\(J6 a r).run P w = .ok V w:=by
  cases r with
  |tmp t=>cases (Option.some.inj h);exact⟨_,hs t,rfl⟩
  |cell t T=>
    simp only[res?]at h;split at h;case h_2=>cases h
    case h_1 i off ti e1 e2=>
    split at h;case h_2=>cases h
    case h_1 cs e3=>
    have h1:=hs t;rw[g9 e1]at h1;obtain⟨b,hb,e⟩:=h1;obtain⟨V,d,c⟩:=Kn e2 X hb e3 h;refine⟨V,d, ?_⟩;simp only[J6,e,asAddr,Sem.run_bind,Sem.run_pure,Result.andThen];exact c
def xL{g:Gh}{w:World}{s:AE}{H:St}{a:Array Value}(X:Inv g H w)(hs:A3 g w s a):∀(b:List ResultVar) (k:List AV->Option AV) (v:AV),resK? P s H b k=some v->
    ∃(vs:List AV) (Vs:List Value),k vs=some v/\AL g w vs Vs/\(b.mapM (J6 a)).run P w = .ok Vs w
  |[],k,v,h=>⟨[],[],h,rfl,rfl⟩
  |r::b,k,v,h=>by
    unfold resK? at h;split at h;case h_2=>cases h
    case h_1 x e=>
    obtain⟨V,h1,h2⟩:=Qw X hs e;obtain⟨vs,Vs,h3,h4,c⟩:=xL X hs b _ v h;refine⟨x::vs,V::Vs,h3,⟨V,Vs,rfl,h1,h4⟩, ?_⟩;simp_all
omit [Lay P] in
def tB{fn:Func}{d:List ResultVar}{c:Array Value}{w:World}(h:fn.results=d.toArray)(hr:(d.mapM (J6 c)).run P w = .ok Vs w):(results fn c).run P w = .ok (Qv Vs) w:=by
  have e:results fn c=(fn.results.mapM (J6 c) >>= λvs=>pure (if h:vs.size=1 then vs[0] else .tuple vs)):=rfl;rw[e,h,List.mapM_toArray];simp only[Sem.run_bind,map_eq_pure_bind,hr,Result.andThen,Sem.run_pure];unfold Qv;match Vs with
  |[]=>simp
  |[v]=>simp
  |a::b::l=>simp
def O4(P:Program)[Lay P](rs:List ResultVar)(o:Av->St->Prop):AX->AE->St->Prop
  | .normal=>λs H=>∃v,resK? P s H rs nK=some v/\o (.ret v) H
  | .ret=>λs H=>∃v,resK? P s H rs nK=some v/\o (.ret v) H
  | .pan x=>λ_ H=>o (.pan x) H
  |_=>λ_ _=>False
def vP{g:Gh}{w:World}{vs:List AV}{v:AV}(h:nK vs=some v)(hl:AL g w vs Vs):Ab g w v (Qv Vs):=by
  match vs,hl,h with
  |[],hl,h=>cases h;rw[show Vs=[] from hl];exact⟨#[],rfl,rfl⟩
  |[x],⟨u,r,e,h1,h2⟩,h=>cases h;subst e;rw[show r=[] from h2];exact h1
  |x::y::l,⟨u,r,e,h1,⟨b,r', a,h2,h3⟩⟩,h=>cases h;subst a;subst e;exact⟨_,rfl,⟨u,_,rfl,h1,⟨b,r', rfl,h2,h3⟩⟩⟩
def xM{fn:Func}{c:Code}{args:List AV}{H:St}{o:Av->St->Prop}(k:List ResultVar){N:Nat}(hf:P.funcs[f]? =some fn)(hb:fn.body=some c)(hN:fn.ntmps=N)
    (i:(fn.name == "runtime.NumGoroutine")=false) (d:Nat.ble args.length N=true) (b:fn.results=k.toArray)
    (h:AB P N [] c (O4 P k o) (cB 0 args) H):AQ P f args H o:=by
  refine⟨⟨fn,hf,i,Yy⟩,λg w J X hl=> ?_⟩;have j:args.length<=N:=Nat.le_of_ble_eq_true d;have r:J.size=args.length:=XC
  refine calls_of_wp hf hb (wp_mono (h g w _ X (λt=> ?_) ?_ rfl) ?_)
  · rw[kQ]
    cases e:args[t]? with
    |none=>trivial
    |some v=>
      obtain⟨u,h1,h2⟩:=hl.get e;have:(J++Array.replicate (fn.ntmps-J.size) undef).getD t undef=u:=by rw[getElem?_toList]at h1;have hlt:=(Array.getElem?_eq_some_iff.1 h1).1;simp only[Array.getD_eq_getD_getElem?];grind
      simp_all
  · simp;omega
  · rintro e a w' ⟨y,s', σ', g', h1,h2,h3,h4,h5,h6,h7⟩
    cases y with
    |normal=>cases (show e = .normal from h1);obtain⟨v,e1,m⟩:=h7;obtain⟨vs,Vs,n,p,q⟩:=xL h5 h6 k _ v e1;exact⟨h3,_,tB b q,g', σ', .ret _,h4,h5,⟨_,rfl,vP n p⟩,m⟩
    |ret=>cases (show e = .ret from h1);obtain⟨v,e1,m⟩:=h7;obtain⟨vs,Vs,n,p,q⟩:=xL h5 h6 k _ v e1;exact⟨h3,_,tB b q,g', σ', .ret _,h4,h5,⟨_,rfl,vP n p⟩,m⟩
    |exit id=>exact h7.elim
    |goto l=>exact h7.elim
    |pan x=>obtain⟨u,rfl,z⟩:=h1;exact⟨h3,g', σ', .pan x,h4,h5,⟨u,rfl,z⟩,h7⟩
end
def aI{P:Program}[Lay P]{a:List ResultVar}{s:AE}{H:St}{v r:AV}(h:resK? P s H a nK=some v)(hw:AC v r):∃c,resK? P s H a nK=some c/\∃b,Av.ret c = .ret b/\AC b r:=WN
section rules
variable {P:Program} [Lay P] {A:Array Oper} {G:Bool} {K:AX->AE->St->Prop} {C:List Oper} {I:List Ak} {s:AE} {H:St}
variable {d:Tmp} {R:TypeId} {D:String} {S:Array Edge}
def Th{x y:Operand}{kl kc:IntKind}{m:Int}{n k:Nat}{c f:TI}(hT:ty? P T=some c)(hk:c.kind = .slice)(hE:ty? P c.elem=some f)
    (Y:ev? s x=some (.int kl 0)) (hy:ev? s y=some (.int kc m)) (hm:m=(n:Int)) (hb:f.bytes * n<=281474976710656) (hb': n<=9223372036854775807) (z:dM H.T=some k) (hT': kU H.T (.len 0) some=some T')
    (kk:AD P A G K C (.tk::I) ((d, .slice [] (.own k f.size))::s) ⟨H.B,T'⟩):AD P A G K (⟨some d, .makeSlice T x y,R,D,S,none⟩::C) I s H:=
  bT (t := .tk) (σ':= ⟨H.B,T'⟩) rfl ⟨rfl,λB=>by
    intro g w a next Q hI ho a1
    have h1:a.eval x = .int kl 0:=op1 Y Wd ho
    have h2:a.eval y = .int kc m:=op1 hy Wd ho
    obtain⟨a8,dd,z0,t1,t2,t3,t4,_⟩:=(eK hT).ex
    have hd:∃e,dd = .slice e:=Wi
    obtain⟨el,rfl⟩:=hd
    have u:el=c.elem:=t4
    subst u
    obtain⟨l,de,o,u1,u2,u3,u4,u5,u6,u7,u8,u9,ai,aj,ak,al⟩:=(eK hE).ex
    have a0:H.T.length=k:=dG z
    have q:H.T++[Tok.len 0]=T':= Option.some.inj (eX _ _ _ _ hT')
    subst hm
    have j:=run_make (P:=P) w T c.elem l o t2 u1 u8 kl kc 0 (n:Int) (Int.le_refl _) om (by rw[u7, <-Int.natCast_mul];omega) om
    have ae:((n:Int)).toNat=n:=Wa
    have a2:n * f.size=(madeCells o.cells (n * l.size)).size:=by rw[u6];simp[madeCells]
    have v:g.tk.length=H.T.length:=hI.lenT
    obtain⟨g', e1,e2,e3,e4⟩:=J0 (H:=⟨B,H.T⟩) hI (madeCells o.cells (n * l.size)) c.elem (k:=H.T.length) (n:=0) (sz:=f.size) (cap:=n) a2 (zero_le _) (old:=none) (by rw[<-v];simp) om (λr h=>Wu) (T':= T')
      (.inr ⟨rfl,q.symm⟩)
    unfold Oper.wp
    have b:(execOp a.eval ⟨some d, .makeSlice T x y,R,D,S,none⟩).run P w = .ok (.value (.slice (some ⟨w.heap.size,0,none⟩) 0 n)) (dN w (.cells (madeCells o.cells (n * l.size)) c.elem)):=by
      simp only[execOp,h1,h2,Sem.run_bind,j,Result.andThen,Sem.run_pure]
      rfl
    rw[b]
    refine a1 _ _ g' e2 e3 ⟨some ⟨w.heap.size,0,none⟩,n,f.size,[],rfl,zero_le _, ?_, ?_,rfl,(λh=>Wu),λp hp=>⟨.inr rfl,λi V X=>XI⟩⟩
    · unfold maxLen;omega
    · rw[<-a0]
      exact⟨.inr rfl,_,e1.get,rfl,zero_le _,λ_=>⟨rfl,rfl, .inr λp hp=>by cases hp;rfl⟩⟩⟩ kk
end rules
theorem AA.eq(h:xs=ys):AA xs ys:=h▸aD xs
section rules
variable {P:Program} [Lay P] {A:Array Oper} {G:Bool} {K:AX->AE->St->Prop} {C:List Oper} {I:List Ak} {s:AE} {H:St}
variable {d:Tmp} {R:TypeId} {D:String} {S:Array Edge}
end rules
def Ti{P:Program}{N:Nat}{D:List Deferred}{c:Code}{K:AX->AE->St->Prop}{s:AE}{H:St}(b:Nat)(Y:lk? s b=some x)(hw:AC x y)(h:AB P N D c K ((b,y)::s) H):AB P N D c K s H:=λg w a X hs ha d=>
  h g w a X (λu=>by
    unfold lk;cases e:Nat.beq b u with
    |true=>have:=eq_of_beq_eq_true e;subst this;have h1:=hs b;rw[g9 Y]at h1;exact hw _ _ _ h1
    |false=>exact hs u) ha d
theorem rS{α:Type}:∀ {l:List α} {j:Nat} {u:α},l[j]? =some u->l.set j u=l
  |x::l,0,u,h=>by simp at h;subst h;rfl
  |x::l,j+1,u,h=>by have:=rS (l:=l) (j:=j) (u:=u) Wp;simp[this]
  |[],_,_,h=>Wm
def lI{P:Program}{N:Nat}{D:List Deferred}{c:Code}{K:AX->AE->St->Prop}{s:AE}{H:St}(i j:Nat)(agg:Bool)(z:Nat){cs:List AV}{xs:List AV}{k n:Nat}{B': List Ob}(h:AB P N D c K s ⟨B', T'⟩)(m:H.B[i]? =some (.cells cs):=by exact rfl)(Y:cs[j]? =some (.slice xs t):=by exact rfl)(ht:t.fresh=true:=by exact rfl)(hf:eQ agg z xs=true:=by exact rfl)(hk:dM H.T=some k:=by exact rfl)(hn:xs.length=n:=by exact rfl)(hT': kU H.T (.len n) some=some T':= by exact rfl)(o:H.B.set i (.cells (cs.set j (.slice xs (.own k z))))=B':= by exact rfl):AB P N D c K s H:=λg w a X hs ha hd=>by
  have hlt:i<g.bx.length:=by rw[X.lenB];exact(List.getElem?_eq_some_iff.1 m).1
  have hb:g.bx[i]? =some g.bx[i]:=List.getElem?_eq_getElem hlt;obtain⟨J,R,q1,q2,q3⟩:=X.ob i _ _ hb m;obtain⟨u,hu,hr⟩:=q2.get Y;obtain⟨x,e1,b,v⟩:=rO ht hf X hr;have q:H.T.length=k:=dG hk;have p:H.T++[Tok.len n]=T':= Option.some.inj (eX _ _ _ _ hT');rw[hn,p]at b;rw[q]at v;have hI:Inv x ⟨B', T'⟩ w:=by
    refine⟨by rw[b.lenB, <-o];simp,b.lenT,λy b' f h1 h2=> ?_,b.nodup,b.noim,b.tok,b.tkz,b.tkd,b.imlt,b.gl⟩;by_cases e:i=y
    · subst e;have d:=e1.le.bx _ _ hb;rw[d]at h1;cases h1;have l:f = .cells (cs.set j (.slice xs (.own k z))):=by grind
      subst l;obtain⟨r,a9,p1,p2,p3⟩:=b.ob i _ _ d m;rw[q1]at p1;cases p1;refine⟨J,R,q1, ?_,q3⟩;have:=AL.set j p2 v;rwa [rS hu]at this
    · refine b.ob y b' f h1 ?_;grind
  exact wp_mono (h x w a hI (λu=>Ab.mono e1.le _ _ (hs u)) ha hd) λ_ _ _ hp=>hp.trans e1
def L6(k:B6)(x y:AV):Option Bool:=
  match k,x,y with
  | .bool, .bool a, .bool b=>some (a==b)
  | .int _, .int k a, .int k' b=>if k=k' then some (a==b) else none
  | .string, .str a, .str b=>some (a==b)
  |_,_,_=>none
def Ft(P:Program)[Lay P]:List Field->Nat->List AV->List AV->Option Bool
  |[],_,[],[]=>some true
  |f::fs,i,x::xs,y::ys=>match Nat.beq f.offset i,ty? P f.type with
    |true,some ti=>match ti.agg,L6 ti.kind x y,Ft P fs (i+1) xs ys with
      |false,some b,some r=>some (b&&r)
      |_,_,_=>none
    |_,_=>none
  |_,_,_,_=>none
structure CS(P:Program)(T:TypeId)(fs:List Field):Prop where
  u:P.underlying T=some (.struct fs.toArray)
  held:P.stoodInHeld T=false
  plain:P.eqGuardType P.depth T=false
  named:(fs.all λf=>f.name != "_")=true
section
variable {P:Program} [Lay P]
omit [Lay P] in
def vQ{g:Gh}{w:World}{k:B6}{t:TypeId}{a:TypeDesc}(f:P.underlying t=some a)(hk:tD a=k)(h:L6 k x y=some b)(Y:Ab g w x u)(hy:Ab g w y v)(n:Nat):
    (Op.equalIn (n+1) t u v).run P w = .ok b w:=by
  unfold L6 at h;split at h
  · cases (show u=_ from Y);cases (show v=_ from hy);cases h;cases a<;>first|(cases hk;done)|simp[Op.equalIn,run_underlying f,Result.andThen]
  · cases (show u=_ from Y);cases (show v=_ from hy);split at h;case isFalse=>cases h
    case isTrue e=>
    subst e;cases h;cases a<;>first|(cases hk;done)|simp[Op.equalIn,run_underlying f,Result.andThen]
  · cases (show u=_ from Y);cases (show v=_ from hy);cases h;cases a<;>first|(cases hk;done)|skip
    rename_i c d;have e:((⟨c.toArray⟩:ByteArray)==⟨d.toArray⟩)=(c==d):=by show (c.toArray==d.toArray)=(c==d);rw[Bool.eq_iff_iff,beq_iff_eq,beq_iff_eq];simp
    simp[Op.equalIn,run_underlying f,Result.andThen,e]
  · cases h
theorem J7{t:TypeId}{b:TI}(h:ty? P t=some b)(ha:b.agg=false){cs:Array Value}{a:Nat}{v:Value}(hv:cs[a]? =some v)(w:World):(part t cs a).run P w = .ok v w:=by unfold part;simp only[Sem.run_bind,FN h,Result.andThen,ha,Bool.false_eq_true,if_false,hv,Sem.run_pure]
def HJ{g:Gh}{w:World}{us vs:Array Value}(n:Nat):∀(d:List Field) (i:Nat) (xs ys:List AV) (b:Bool),(d.all λf=>f.name != "_")=true->Ft P d i xs ys=some b->AL g w xs (us.toList.drop i)->AL g w ys (vs.toList.drop i)->
    ((forIn d ((none:Option Bool),()) λf __s=>
                if f.name ≠ "_" then do
                  let a<-part f.type us f.offset;let c<-part f.type vs f.offset;let e<-Op.equalIn (n+1) f.type a c;if (!e)=true then pure (ForInStep.done (some false,()))
                    else pure (ForInStep.yield (none,()))
                else pure (ForInStep.yield (none,()))):Sem (Option Bool×Unit)).run P w = .ok (if b then none else some false,()) w
  |[],i,[],[],b,_,h,_,_=>by cases h;simp
  |f::d,i,x::xs,y::ys,b,hn,h,Y,hy=>by
    simp only[List.all_cons,Bool.and_eq_true]at hn;unfold Ft at h;split at h;case h_2=>cases h
    case h_1 ti e1 e2=>
    split at h;case h_2=>cases h
    case h_1 b1 r ea e3 e4=>
    have ho:=eq_of_beq_eq_true e1;obtain⟨u,ur,j,m,o⟩:=Y;obtain⟨v,vr,k,p,q⟩:=hy;have gu:us[f.offset]? =some u:=by
      have:(us.toList.drop i)[0]? =some u:=YA
      grind
    have gv:vs[f.offset]? =some v:=by
      have:(vs.toList.drop i)[0]? =some v:=We
      grind
    obtain⟨t,dd,z0,t1,t2,t3,t4,_⟩:=(eK e2).ex;have h1:=vQ t2 t3 e3 m p n;have l:f.name ≠ "_" :=by simpa using hn.1
    have z:us.toList.drop (i+1)=ur:=by rw[<-drop_drop,j];rfl
    have d2:vs.toList.drop (i+1)=vr:=by rw[<-drop_drop,k];rfl
    have E:=HJ n d (i+1) xs ys r hn.2 e4 (by rw[z];exact o) (by rw[d2];exact q);cases h;rw[List.forIn_cons];simp only[if_pos l,Sem.run_bind,J7 e2 ea gu,J7 e2 ea gv,h1,Result.andThen];cases b1 with
    |true=>simp_all
    |false=>simp
  |[],_,_::_,_,_,_,h,_,_=>by cases h
  |[],_,[],_::_,_,_,h,_,_=>by cases h
  |_::_,_,[],_,_,_,h,_,_=>by cases h
  |_::_,_,_::_,[],_,_,h,_,_=>Wu
def HK{a:List Field}(hT:CS P T a){g:Gh}{w:World}(h:Ft P a 0 xs ys=some b)(Y:Ab g w (.agg xs) u)(hy:Ab g w (.agg ys) v):(Op.equal T u v).run P w = .ok b w:=by obtain⟨us,rfl,h1,_⟩:=Y;obtain⟨vs,rfl,h2,_⟩:=hy;have h3:=HJ (us:=us) (vs:=vs) 9998 a 0 xs ys b hT.named h (by simpa using h1) (by simpa using h2);unfold Op.equal Op.maxDepth;rw[Op.equalIn];simp only[Sem.run_bind,run_underlying hT.u,Result.andThen,run_program,hT.held,Bool.false_eq_true,if_false,List.forIn_toArray];rw[h3];cases b<;>simp
section rules
variable {A:Array Oper} {G:Bool} {K:AX->AE->St->Prop} {C:List Oper} {I:List Ak} {s:AE} {H:St}
variable {d:Tmp} {R:TypeId} {D:String} {S:Array Edge}
omit [Lay P] in
theorem HL{b:List Field}(hT:CS P T b){a:BinOp}{x y:Operand}{us vs:Array Value}(w:World):(eqGuard a T x y (.agg us) (.agg vs)).run P w = .ok () w:=by cases a<;>simp[eqGuard,hT.plain]
def Qx{x y:Operand}(hT:CS P T e)(Y:ev? s x=some (.agg xs))(hy:ev? s y=some (.agg ys))(h:Ft P e 0 xs ys=some b)(k:AD P A G K C (.pure::I) ((d, .bool b)::s) H):
    AD P A G K (⟨some d, .binOp .eql T x y U,R,D,S,none⟩::C) I s H:=
  bT rfl (eZ λg w a f=>by have h1:=op1 Y Wd f;have h2:=op1 hy Wd f;have h3:=HK hT h h1 h2;obtain⟨us,e1,_⟩:=h1;obtain⟨vs,c,_⟩:=h2;rw[e1,c]at h3;exact⟨.bool b,Y3,rfl⟩) k
def aB7{x y:Operand}(hT:CS P T e)(Y:ev? s x=some (.agg xs))(hy:ev? s y=some (.agg ys))(h:Ft P e 0 xs ys=some b)(k:AD P A G K C (.pure::I) ((d, .bool (!b))::s) H):
    AD P A G K (⟨some d, .binOp .neq T x y U,R,D,S,none⟩::C) I s H:=
  bT rfl (eZ λg w a f=>by have h1:=op1 Y Wd f;have h2:=op1 hy Wd f;have h3:=HK hT h h1 h2;obtain⟨us,e1,_⟩:=h1;obtain⟨vs,c,_⟩:=h2;rw[e1,c]at h3;exact⟨.bool (!b),Y3,rfl⟩) k
def aB8{x y:Operand}{m n:Bool}{f:TI}(hT:ty? P T=some f)(hk:f.kind = .bool)(Y:ev? s x=some (.bool m))(hy:ev? s y=some (.bool n))(k:AD P A G K C (.pure::I) ((d, .bool (m==n))::s) H):
    AD P A G K (⟨some d, .binOp .eql T x y U,R,D,S,none⟩::C) I s H:=
  bT rfl (eZ λg w a b=>by have h1:a.eval x = .bool m:=op1 Y Wd b;have h2:a.eval y = .bool n:=op1 hy Wd b;obtain⟨c,h,z,t1,t2,e,_⟩:=(eK hT).ex;rw[hk]at e;have h3:(Op.equal T (.bool m) (.bool n)).run P w = .ok (m==n) w:=vQ (g:=⟨[],[],λ_ _=>False⟩) (x := .bool m) (y := .bool n) t2 e rfl rfl rfl 9999;exact⟨.bool (m==n),by simp[execOp,h1,h2,eqGuard,Go.binOp,h3,Result.andThen],rfl⟩) k
def aB9{x y:Operand}{m n:Bool}{f:TI}(hT:ty? P T=some f)(hk:f.kind = .bool)(Y:ev? s x=some (.bool m))(hy:ev? s y=some (.bool n))(k:AD P A G K C (.pure::I) ((d, .bool (m != n))::s) H):
    AD P A G K (⟨some d, .binOp .neq T x y U,R,D,S,none⟩::C) I s H:=
  bT rfl (eZ λg w a b=>by have h1:a.eval x = .bool m:=op1 Y Wd b;have h2:a.eval y = .bool n:=op1 hy Wd b;obtain⟨c,h,z,t1,t2,e,_⟩:=(eK hT).ex;rw[hk]at e;have h3:(Op.equal T (.bool m) (.bool n)).run P w = .ok (m==n) w:=vQ (g:=⟨[],[],λ_ _=>False⟩) (x := .bool m) (y := .bool n) t2 e rfl rfl rfl 9999;exact⟨.bool (m != n),by simp[execOp,h1,h2,eqGuard,Go.binOp,h3,Result.andThen,bne],rfl⟩) k
end rules
end
section rules
variable {P:Program} [Lay P] {A:Array Oper} {G:Bool} {K:AX->AE->St->Prop} {C:List Oper} {I:List Ak} {s:AE} {H:St}
variable {d:Tmp} {R:TypeId} {D:String} {S:Array Edge}
omit [Lay P] in
def dB{x:Operand}{v:AV}(k:AD P A G K C (.pure::I) ((d, .ab v)::s) H)(Y:ev? s x=some v:=by exact rfl)(O:kT v (λ_=>some ())=some ():=by exact rfl):AD P A G K (⟨some d, .box T x,R,D,S,none⟩::C) I s H:=
  bT (t := .pure) rfl ⟨rfl,λτ=>by
    intro g w a next Q c e hn;have h1:=op1 Y Wd e;obtain⟨cs,_,h3,h4⟩:=jQ O h1;obtain⟨b,f⟩:=FM c (a.eval x).cells T (a.eval x).cells.size (Nat.le_refl _);unfold Oper.wp;refine hn _ _ _ b f ⟨w.heap.size,0,a.eval x,rfl,λj u hj=>⟨.inr ⟨rfl, ?_⟩, ?_,h4 u ?_⟩,Ab.mono b.le _ _ h1⟩
    · grind
    · simp_all
    · exact mem_of_getElem? (by rw[getElem?_toList];exact hj)⟩ k
omit [Lay P] in
def I3{d:Option Tmp}{x:Operand}{p:Array TypeId}{o cs J b:List AV}{r:AV}(Y:ev? s x=some (.fn (.func f) o cs))(ha:j7 s args.toList some=some J)(hp:AN P f b r)(hw:AA (o++J++cs) b)
    (k:AD P A G K C (.pure::I) (iJ d r s) H):AD P A G K (⟨d, .call ⟨.value x,args,p⟩,R,D,S,none⟩::C) I s H:=
  bT (t := .pure) rfl ⟨rfl,λτ=>by
    intro g w a next Q i q hn;have hv:args.toList.map (ev s)=J:=Option.some.inj (g6 _ _ _ ha);obtain⟨vs,us,m,j,l⟩:=op1 Y Wj q;have hl:=jF (g:=g) (w:=w) (s:=s) (a:=a) args.toList (λx Y=>q x Wn);rw[hv]at hl;have n:AL ⟨[],[],g.im⟩ w b (vs++args.map a.eval++us).toList:=by simp only[Array.toList_append,toList_map];exact j6 (bx:=g.bx) (tk:=g.tk) _ _ hp.2.1 (hw _ _ _ ((j.append hl).append l))
    unfold Oper.wp;rw[pQ hp.1 a w vs us m];refine(hp.2.2 g.im w _ i.imlt i.gl n).mono ?_;rintro e w' ⟨c,h1,h2,u,rfl,h3⟩;obtain⟨h4,v⟩:=vK i h1 h2;exact hn u w' _ h4 v (Ab.mono (g:=⟨[],[],c⟩) (w:=w') (g':= ⟨g.bx,g.tk,c⟩) (w':= w') ⟨λ_ _ h=>⟨h,rfl⟩,λ_ _ h=>Wm,λ_ _ h=>Wm⟩ _ _ h3)⟩ k
omit [Lay P] in
def Fv{el:TypeId}(h:P.underlying T=some (.slice el))(p:Option Addr)(m c n:Nat)(w:World):(Op.equalIn (n+1) T (.slice p m c) (.slice none 0 0)).run P w = .ok p.isNone w:=by cases p<;>simp[Op.equalIn,run_underlying h,Result.andThen]
def I4{x:Operand}{h:TI}(hT:ty? P T=some h)(hk:h.kind = .slice)(Y:ev? s x=some (.slice xs .nil))
    (k:AD P A G K C (.pure::I) ((d, .bool true)::s) H):AD P A G K (⟨some d, .binOp .eql T x (.const (.slice none 0 0)) U,R,D,S,none⟩::C) I s H:=
  bT rfl (eZ λg w a n=>by
    obtain⟨p,cap,sz,Vs,e,o,q,⟨i,r⟩,_⟩:=op1 Y Wd n;obtain⟨c,b,z0,t1,t2,f,t,_⟩:=(eK hT).ex;have m:∃e,b = .slice e:=WB
    obtain⟨l,rfl⟩:=m;subst i;have h3:(Op.equal T (.slice none Vs.length cap) (.slice none 0 0)).run P w = .ok true w:=Fv t2 none Vs.length cap 9999 w;have j:a.eval (.const (.slice none 0 0)) = .slice none 0 0:=rfl;exact⟨.bool true,Yz,rfl⟩) k
def Fw{x:Operand}{h:TI}(hT:ty? P T=some h)(hk:h.kind = .slice)(Y:ev? s x=some (.slice xs .nn))
    (k:AD P A G K C (.pure::I) ((d, .bool false)::s) H):AD P A G K (⟨some d, .binOp .eql T x (.const (.slice none 0 0)) U,R,D,S,none⟩::C) I s H:=
  bT rfl (eZ λg w a n=>by
    obtain⟨p,cap,sz,Vs,e,r,t,i,_⟩:=op1 Y Wd n;obtain⟨c,b,z0,t1,t2,f,u,_⟩:=(eK hT).ex;have m:∃e,b = .slice e:=WB
    obtain⟨l,rfl⟩:=m;obtain⟨q,o⟩:∃q,p=some q:=by cases p with|none=>exact absurd rfl i|some q=>exact⟨q,rfl⟩
    subst o;have h3:(Op.equal T (.slice (some q) Vs.length cap) (.slice none 0 0)).run P w = .ok false w:=Fv t2 (some q) Vs.length cap 9999 w;have j:a.eval (.const (.slice none 0 0)) = .slice none 0 0:=rfl;exact⟨.bool false,Yz,rfl⟩) k
end rules
def tC{P:Program}{N:Nat}{D:List Deferred}{c:Code}{K:AX->AE->St->Prop}{s:AE}{H:St}(b:Nat)(Y:lk? s b=some (.slice xs t))
    (h1:xs=[]->AB P N D c K ((b, .slice xs .nil)::s) H) (h0:AB P N D c K ((b, .slice xs .nn)::s) H):AB P N D c K s H:=λg w a X hs ha n=>by
  have hr:=hs b;rw[g9 Y]at hr;have d:∀y,Ab g w y (a.tmps.getD b undef)->A3 g w ((b,y)::s) a.tmps:=λy hy u=>by
    unfold lk;cases e:Nat.beq b u with
    |true=>have:=eq_of_beq_eq_true e;subst this;exact hy
    |false=>exact hs u
  obtain⟨p,cap,sz,Vs,e,k,l,o,f,i,m⟩:=hr;cases p with
  |none=>obtain⟨rfl,rfl⟩:=i rfl;have j:xs=[]:=eq_nil_of_length_eq_zero f.length.symm;exact h1 j g w a X (d _ ⟨none,0,sz,[],e,k,l,⟨rfl,rfl⟩,f,i,m⟩) ha n
  |some q=>exact h0 g w a X (d _ ⟨some q,cap,sz,Vs,e,k,l,(λh=>Wu),f,i,m⟩) ha n
section
variable {g:Gh} {H:St} {w:World}
def Kl(X:Inv g H w){r': A9}{t': Tok}{J:Nat->Nat->Prop}
    (hT:(k<H.T.length/\T'= H.T.set k t')\/(k=H.T.length/\T'= H.T++[t']))
    (u:w.heap.size<=w'.heap.size) (ab:w'.os=w.os) (a1:w'.tape=w.tape) (a6:w'.output=w.output)
    (z:∀b,b<w.heap.size->(∀r,g.tk[k]? =some r->∀o,¬r.az b o)->w'.heap[b]? =w.heap[b]?)
    (d:∀b o,b<w.heap.size->(∀r,g.tk[k]? =some r->¬r.az b o)->w'.cell? ⟨b,o,none⟩=w.cell? ⟨b,o,none⟩)
    (m:∀b o,b<w.heap.size->w'.frozen? ⟨b,o,none⟩=w.frozen? ⟨b,o,none⟩)
    (hJ:∀b o,J b o->¬r'.az b o/\b<w'.heap.size/\(w.heap.size<=b\/∃r,g.tk[k]? =some r/\r.az b o))
    (hz:∀b o,r'.az b o->(∃v,w'.cell? ⟨b,o,none⟩=some v)/\w'.frozen? ⟨b,o,none⟩=false/\(w.heap.size<=b\/∃r,g.tk[k]? =some r/\r.az b o))
    (ad:∀r,g.tk[k]? =some r->r'= r\/(r.n<r'.n/\r'.sz=r.sz))
    (a7:∀g', Le g w g' w'-> A7 g' w' r' t'):
    ∃g', Ar g w g' w'/\ Inv g' ⟨H.B,T'⟩ w'/\ g'.tk[k]? =some r'/\ (∀b o,J b o->g'.im b o):=by
  let a3:Nat->Nat->Prop:=λb o=>g.im b o\/J b o
  let l:List A9:=if k<g.tk.length then g.tk.set k r' else g.tk++[r']
  have a5:=X.lenT;have c:BU g w k r' ⟨g.bx,l,a3⟩ w':= by refine⟨rfl, ?_⟩;grind
  have a4:∀b o,g.im b o->∀r,g.tk[k]? =some r->¬r.az b o:=λb o h r hr f=>(X.tkz k r hr b o f).1 h
  have p:Le g w ⟨g.bx,l,a3⟩ w':= by refine⟨λb o h=>⟨.inl h,d b o (X.imlt b o h) (a4 b o h)⟩,λ_ _ h=>h,λj r hj=> ?_⟩;grind
  refine⟨⟨g.bx,l,a3⟩, ?_, ?_,c.get,λb o h => .inr h⟩
  · refine⟨p,u,ab,a1,a6,λb hb hn a2=>z b hb λr hr o=>a2 k r hr o,λb o hb hn a2=>⟨d b o hb λr hr=>a2 k r hr,m b o hb⟩,λb o h=> ?_,λb hb => .inl hb,λj r hj b o f=> ?_⟩
    · grind
    · grind
  · refine⟨X.lenB, ?_,λi b ob h1 h2=>(X.ob i b ob h1 h2).mono p (z b (X.be (mem_of_getElem? h1)) λr hr o f=>(X.tkz k r hr b o f).2.1 (mem_of_getElem? h1)),X.nodup,λb hb o h=> ?_,λj t r hj ht=> ?_,λj r hj b o f=> ?_,λj j' r r2 x hj a0 b o f y=> ?_,λb o h=> ?_,X.gl.le p⟩
    · show l.length=T'.length
      rcases hT with⟨h1,rfl⟩|⟨h1,rfl⟩
      · rw[show l=g.tk.set k r' from if_pos om];simp[a5]
      · rw[show l=g.tk++[r'] from if_neg om];simp[a5]
    · rcases h with h|h
      · exact X.noim b hb o h
      · rcases (hJ b o h).2.2 with h|⟨r,hr,hzr⟩
        · have:=X.be hb;omega
        · exact(X.tkz k r hr b o hzr).2.1 hb
    · by_cases e:j=k
      · subst e
        have:r=r':= Option.some.inj (hj.symm.trans c.get);subst this;have:t=t':= by
          rcases hT with⟨h1,rfl⟩|⟨h1,rfl⟩
          · simp only[List.getElem?_set_self h1,Option.some.injEq]at ht;exact ht.symm
          · rw[h1]at ht;simp at ht;exact ht.symm
        subst this;exact a7 _ p
      · have a:g.tk[j]? =some r:=(c.other e).symm.trans hj
        have ae:=(List.getElem?_eq_some_iff.1 a).1;refine(X.tok j t r a ?_).mono p λb o f=>d b o (X.bc a f) λr2 q=>X.tkd j k r r2 e a q b o f
        rcases hT with⟨h1,rfl⟩|⟨h1,rfl⟩
        · simpa [Ne.symm e]using ht
        · have aa:j<H.T.length:=om
          simpa [List.getElem?_append_left aa]using ht
    · by_cases e:j=k
      · subst e
        have:r=r':= Option.some.inj (hj.symm.trans c.get);subst this;obtain⟨h1,h2,h3⟩:=hz b o f;refine⟨λh=> ?_,λhb=> ?_,h1,h2⟩
        · rcases h with h|h
          · rcases h3 with h3|⟨r0,h3,h4⟩
            · have:=X.imlt b o h;omega
            · exact(X.tkz j r0 h3 b o h4).1 h
          · exact(hJ b o h).1 f
        · rcases h3 with h3|⟨r0,h3,h4⟩
          · have:=X.be hb;omega
          · exact(X.tkz j r0 h3 b o h4).2.1 hb
      · have a:g.tk[j]? =some r:=(c.other e).symm.trans hj
        obtain⟨h1,h2,h3,h4⟩:=X.tkz j r a b o f;have hb:=X.bc a f;have O:=d b o hb λr2 q=>X.tkd j k r r2 e a q b o f
        refine⟨λh=> ?_,h2,by rw[O];exact h3,(m b o hb).trans h4⟩;rcases h with h|h
        · exact h1 h
        · rcases (hJ b o h).2.2 with h|⟨r2,q,hzr⟩
          · omega
          · exact X.tkd j k r r2 e a q b o f hzr
    · by_cases e:j=k
      · subst e
        have:r=r':= Option.some.inj (hj.symm.trans c.get);subst this;have a:g.tk[j']? =some r2:=(c.other (Ne.symm x)).symm.trans a0;rcases (hz b o f).2.2 with h|⟨r0,h3,h4⟩
        · have:=X.bc a y;omega
        · exact X.tkd j j' r0 r2 x h3 a b o h4 y
      · have a:g.tk[j]? =some r:=(c.other e).symm.trans hj
        by_cases e': j'= k
        · subst e'
          have:r2=r':= Option.some.inj (a0.symm.trans c.get);subst this;rcases (hz b o y).2.2 with h|⟨r0,h3,h4⟩
          · have:=X.bc a f;omega
          · exact X.tkd j j' r r0 x a h3 b o f h4
        · exact X.tkd j j' r r2 x a ((c.other e').symm.trans a0) b o f y
    · rcases h with h|h
      · exact Nat.lt_of_lt_of_le (X.imlt b o h) u
      · exact(hJ b o h).2.1
def FG(d:Inv g H w){z:Nat}(ht:t.fresh=true)(h:Ab g w (.slice [] t) u):
    ∃g', Ar g w g' w/\Inv g' ⟨H.B,H.T++[.Y []]⟩ w/\Ab g' w (.Y H.T.length z 0 0 0) u:=by
  obtain⟨e,cap,sz,Us,rfl,l,m,c,hl,n,q⟩:=h;have j:Us=[]:=hl;subst j;have a:cap=0:=by
    cases t with
    |full=>exact c.symm
    |nil=>exact c.2
    |no=>cases ht
    |nn=>cases ht
    |own k z=>cases ht
  subst a;have hk:g.tk[H.T.length]? =none:=by rw[<-d.lenT];simp
  obtain⟨g', e1,f,i,_⟩:=Kl (r':= ⟨none,0,0,z,0⟩) (t' := .Y []) (J:=λ_ _=>False) d (w':= w) (.inr ⟨rfl,rfl⟩) (Nat.le_refl _) rfl rfl rfl (λ_ _ _=>rfl) (λ_ _ _ _=>rfl) (λ_ _ _=>rfl) (λ_ _ h=>h.elim)
    (λb o ⟨p,hp,_⟩=>Xm) (λr hr=>by rw[hk]at hr;cases hr) (λg' _=>⟨rfl,rfl,Nat.le_refl _,[],rfl,λ_=>rfl,Wa,λp hp=>Xm⟩)
  exact⟨g', e1,f,e,0,rfl,Nat.le_refl _,Nat.le_refl _,Nat.le_refl _,by simp[maxLen],(λh=>om),_,i,rfl,Nat.le_refl _,λ_=>⟨rfl,rfl,λh=>om⟩⟩
structure BP(g:Gh)(w:World)(k z:Nat)(xs:List AV)(r:A9)(Vs:List Value):Prop where
  hr:g.tk[k]? =some r
  sz:r.sz=z
  n:r.n=xs.length
  lo:r.lo=0
  cap:xs.length<=r.cap
  a1:AL g w xs Vs
  nil0:r.base=none->Vs=[]
  size:∀V∈Vs,V.cells.size=z
  mem:∀p:Addr,r.base=some p->(p.spot=none\/r.cap=0)/\Br w p.block z p.off Vs
def FH(b:Inv g H w){n:Nat}(h:Ab g w (.Y k z n lo X) u)(hT:H.T[k]? =some (.Y xs))(hn:xs.length=n):∃r Vs,BP g w k z xs r Vs:=by obtain⟨a,cap,rfl,h1,h2,h3,h4,j,r,hr,hz,c,l⟩:=h;obtain⟨t1,t2,m,Vs,d,e,f,i⟩:=b.tok k _ r hr hT;subst hz;exact⟨r,Vs,hr,rfl,t1,t2,om,d,e,f,i⟩
theorem BP.len(h:BP g w k z xs r Vs):Vs.length=xs.length:=h.a1.length
theorem BP.az(h:BP g w k z xs r Vs)(hp:r.base=some p){o:Nat}(a:o<r.cap * z):r.az p.block (p.off+o):=
  ⟨p,hp,rfl,by rw[h.lo];omega,by rw[h.sz];omega⟩
def HR(hI:Inv g H w){Us:List Value}(h:BP g w k z xs r Vs)(hT:H.T[k]? =some (.Y xs))(hp:r.base=some p)(a3:p.spot=none){cs:List Value}
    (a:B4 w w' p.block (p.off+at_) cs) (aa:at_+cs.length<=r.cap * z) (a0:0<cs.length) (hU:AL g w ys Us) (y:∀V∈Us,V.cells.size=z) (a6:xs.length<=ys.length) (t:xs.length=ys.length\/xs.length<ys.length) (i:ys.length<=r.cap)
    (l:Br w' p.block z p.off Us):
    ∃g', Ar g w g' w'/\ Inv g' ⟨H.B,H.T.set k (.Y ys)⟩ w'/\ g'.tk[k]? =some { r with n:=ys.length }:=by
  have a1:k<H.T.length:=(List.getElem?_eq_some_iff.1 hT).1;have u:∀j,j<cs.length->r.az p.block (p.off+at_+j):=λj hj=>by rw[add_assoc];exact h.az hp om
  have f:∀b o,(∀x,g.tk[k]? =some x->¬x.az b o)->w'.cell? ⟨b,o,none⟩=w.cell? ⟨b,o,none⟩:=by
    intro b o d;by_cases e:b=p.block
    · subst e
      refine a.there o ?_;refine Classical.byContradiction λO=>d r h.hr ?_
      have:=u (o-(p.off+at_)) om;simp_all
    · exact(cF (a.block b e)).1
  have c:∀b o,w'.frozen? ⟨b,o,none⟩=w.frozen? ⟨b,o,none⟩:=by
    intro b o;by_cases e:b=p.block
    · subst e;exact a.frozen o
    · exact(cF (a.block b e)).2
  obtain⟨g', e1,e2,e3,_⟩:=Kl (r':= { r with n:=ys.length }) (t' := .Y ys) (J:=λ_ _=>False) hI (w':= w') (.inl ⟨a1,rfl⟩) (by rw[a.size];exact Nat.le_refl _) a.os a.tape a.output
    (λb hb d=>by
      by_cases e:b=p.block
      · subst e
        exact absurd (u 0 a0) (d r h.hr _)
      · exact a.block b e)
    (λb o _ d=>f b o d) (λb o _=>c b o) (λ_ _ h=>h.elim)
    (λb o ho=>by
      have m:r.az b o:=ho;obtain⟨_,_,⟨v,hv⟩,hf⟩:=hI.tkz k r h.hr b o m;refine⟨?_,(c b o).trans hf, .inr ⟨r,h.hr,m⟩⟩;by_cases e:b=p.block
      · subst e
        by_cases ab:p.off+at_<=o/\o<p.off+at_+cs.length
        · have hj:o-(p.off+at_)<cs.length:=om
          have:=a.here (o-(p.off+at_)) _ (List.getElem?_eq_getElem hj);rw[show p.off+at_+(o-(p.off+at_))=o by omega]at this;exact⟨_,this⟩
        · exact⟨v,(a.there o om).trans hv⟩
      · exact⟨v,(cF (a.block b e)).1.trans hv⟩)
    (λx a4=>by
      have:x=r:=Option.some.inj (a4.symm.trans h.hr);subst this;rcases t with e|e
      · left
        rw[<-e, <-h.n]
      · right
        exact⟨by rw[h.n];exact e,rfl⟩)
    (λg' a2=>⟨rfl,h.lo,i,Us,AL.mono a2 _ _ hU,(λe=>by rw[hp]at e;cases e),by rw[h.sz];exact y,λq hq=>by have:q=p:=Option.some.inj (hq.symm.trans hp);subst this;refine⟨.inl a3, ?_⟩;rw[h.sz];exact l⟩)
  exact⟨g', e1,e2,e3⟩
def L8(m:Inv g H w){n:Nat}(h:Ab g w (.Y k z n lo X) u)(hT:H.T[k]? =some (.Y xs))(hn:xs.length=n):
    ∃g', Ar g w g' w/\Inv g' ⟨H.B,H.T.set k (.len (n+1))⟩ w/\Ab g' w (.slice ((xs.take X).drop lo) .no) u:=by
  obtain⟨r,Vs,hv⟩:=FH m h hT hn;have t:k<H.T.length:=(List.getElem?_eq_some_iff.1 hT).1;obtain⟨a,cap,rfl,h1,h2,h3,h4,h5,r0,y,hz,a8,h6⟩:=h;have:r0=r:=Option.some.inj (y.symm.trans hv.hr);subst this;obtain⟨l1,l2,l3⟩:=h6 XO;have ab:Vs.length=n:=by rw[hv.len,hn]
  obtain⟨g', e1,e2,e3,e4⟩:=Kl (r':= ⟨none,n+1,0,z,n+1⟩) (t' := .len (n+1)) (J:=λb o=>r0.az b o) m (w':= w) (.inl ⟨t,rfl⟩) (Nat.le_refl _) rfl rfl rfl (λ_ _ _=>rfl) (λ_ _ _ _=>rfl) (λ_ _ _=>rfl)
    (λb o l=>⟨(λ⟨p,hp,_⟩=>Xm),m.bc hv.hr l, .inr ⟨r0,hv.hr,l⟩⟩)
    (λb o ⟨p,hp,_⟩=>Xm) (λr1 a0=>by have:r1=r0:=Option.some.inj (a0.symm.trans hv.hr);subst this;exact .inr ⟨by rw[hv.n,hn];show n<n+1;omega,by rw[hv.sz]⟩) (λg' _=>⟨rfl,rfl⟩)
  refine⟨g', e1,e2,a,cap-lo,z,(Vs.take X).drop lo, ?_, ?_,om,trivial,((AL.mono e1.le _ _ hv.a1).take X).drop lo,λe=> ?_,λq hq=> ?_⟩
  · simp_all
  · simp;omega
  · grind
  · by_cases v:lo<cap
    · obtain⟨p,hp,a9,f⟩:=l3 v
      rw[hq]at f;cases f;refine⟨.inl rfl,λi V hi'=> ?_⟩;rw[getElem?_drop]at hi';have hV:Vs[lo+i]? =some V:=WN
      obtain⟨m1,m2⟩:=(hv.mem p hp).2 (lo+i) V hV;refine⟨m1,λj x hj=> ?_⟩;obtain⟨_,m3,m4⟩:=m2 j x hj;have c:p.off+(lo+i) * z+j=p.off+lo * z+i * z+j:=Zj
      rw[c]at m3;refine⟨e4 _ _ ?_,m3,m4⟩;have a7:j<z:=by have:=(Array.getElem?_eq_some_iff.1 hj).1;omega
      have a6:lo+i<n:=by have:=(List.getElem?_eq_some_iff.1 hV).1;omega
      have hb:(lo+i+1) * z<=r0.cap * z:=mul_le_mul_right _ om;rw[succ_mul]at hb;have:=hv.az hp (o:=(lo+i) * z+j) om
      rwa [show p.off+((lo+i) * z+j)=p.off+lo * z+i * z+j by omega]at this
    · have d:(Vs.take X).drop lo=[]:=by apply eq_nil_of_length_eq_zero;simp;omega
      rw[d];exact⟨.inr rfl,λi V X=>XI⟩
end
section rules
variable {P:Program} [Lay P] {A:Array Oper} {G:Bool} {K:AX->AE->St->Prop} {C:List Oper} {I:List Ak} {s:AE} {H:St}
variable {d:Tmp} {R:TypeId} {D:String} {S:Array Edge}
theorem FI{α:Type}{l:List α}{x:α}(h:l[k]? =some x):l.set k x=l:=by apply List.ext_getElem?;grind
def Ep{R:TypeId}{n:Nat}{d:TI}(hT:ty? P T=some d)(hk:d.kind = .slice)(hE:ty? P d.elem=some te)(l:te.size=z)(hz0:0<z)
    {g:Gh} {w:World} (hI:Inv g H w) {ux uy:Value} (h1:Ab g w (.Y k z n 0 n) ux) {Ys:List Value} (a:CX g w te.size ys uy Ys) (hTk:H.T[k]? =some (.Y xs)) (hn:xs.length=n)
    (hb:(n+ys.length) * te.bytes<=140737488355328) (hb': n+ys.length<=4611686018427387904):
    ∃v w' g', (Builtin.append_ #[T,T] R #[ux,uy]).run P w = .ok v w'/\ Ar g w g' w'/\ Inv g' ⟨H.B,H.T.set k (.Y (xs++ys))⟩ w'/\ Ab g' w' (.Y k z (n+ys.length) 0 (n+ys.length)) v:=by
  have ab:Ys.length=ys.length:=a.a1.length;have kl:k<H.T.length:=(List.getElem?_eq_some_iff.1 hTk).1;obtain⟨r,Us,hv⟩:=FH hI h1 hTk hn;have bi:=h1;obtain⟨a0,cap,rfl,_,_,c3,c4,c5,r0,bp,hz,ai,h6⟩:=h1;have:r0=r:=Option.some.inj (bp.symm.trans hv.hr);subst this;obtain⟨l1,l2,l3⟩:=h6 XO;simp only[Nat.sub_zero,Nat.zero_mul,Nat.add_zero]at *
  have aa:Us.length=n:=by rw[<-hn];exact hv.len
  obtain⟨c1,dd,z0,t1,t2,t3,t4,_⟩:=(eK hT).ex;have hd:∃e,dd = .slice e:=Wi
  obtain⟨el,rfl⟩:=hd;have bm:el=d.elem:=t4;subst bm;obtain⟨ie,de,ze,u1,u2,u3,u4,u5,u6,u7,u8,u9,bv,cn,co,cp⟩:=(eK hE).ex;have al:=hv.size;have am:∀V∈Ys,V.cells.size=z:=λV hV=>by rw[<-l];exact a.size V hV
  have x:∀V∈Us++Ys,V.cells.size=z:=λV hV=>(mem_append.1 hV).elim (al V) (am V)
  have m:(xs++ys).length=n+ys.length:=by rw[List.length_append,hn]
  by_cases hm:Ys.length=0
  · have bl:=eq_nil_of_length_eq_zero hm
    subst bl;have b5:ys=[]:=eq_nil_of_length_eq_zero (by rw[<-ab];rfl);subst b5;refine⟨.slice a0 n cap,w,g, ?_,fD g w, ?_,bi⟩
    · rcases a.form with⟨b,c,rfl,_⟩|⟨rfl,_⟩
      · have ag:(Builtin.firstCells ie.size 0 (.slice (some b) 0 c)).run P w = .ok #[] w:=by simp[Builtin.firstCells,loadCells,loadCellsFrom]
        cases a0<;>simp[Builtin.append_,run_underlying t2,sizeOf,typeInfo,u1,Builtin.lenOf,c3,ag,storeCells]
      · cases a0<;>simp[Builtin.append_,run_underlying t2,sizeOf,typeInfo,u1,Builtin.lenOf,c3,Builtin.firstCells,storeCells]
    · rw[List.append_nil,FI hTk];exact hI
  · have i:0<Ys.length:=om
    rcases a.form with⟨sb,sc,rfl,f⟩|⟨_,e⟩
    case inr=>rw[e]at i;simp at i
    have a2:(flat Ys).length=Ys.length * ie.size:=by rw[u6,l];exact cY am
    have y:(flat Us).length=n * ie.size:=by rw[u6,l,cY al,aa]
    have a1:n+Ys.length<=maxLen:=by unfold maxLen;omega
    have a5:∀old,old<n+Ys.length->Builtin.nextslicecap (n+Ys.length) old * ie.bytes<=281474976710656:=λold h=>growslice_fits h (by rw[ab,u7];exact hb)
    have bs:ze.cells.size=z:=bv.trans l;have a4:∀(old:Nat) (a6:∀v∈flat Us,v.oneCell'= true),old<n+Ys.length->∃g',
        Ar g w g' (w.drew.alloc (.cells ((flat Us).toArray++(flat Ys).toArray++Builtin.zeroCells ze.cells (grownCap w (n+Ys.length) old d.elem-(n+Ys.length))) d.elem))/\
        Inv g' ⟨H.B,H.T.set k (.Y (xs++ys))⟩ (w.drew.alloc (.cells ((flat Us).toArray++(flat Ys).toArray++Builtin.zeroCells ze.cells (grownCap w (n+Ys.length) old d.elem-(n+Ys.length))) d.elem))/\
        Ab g' (w.drew.alloc (.cells ((flat Us).toArray++(flat Ys).toArray++Builtin.zeroCells ze.cells (grownCap w (n+Ys.length) old d.elem-(n+Ys.length))) d.elem)) (.Y k z (n+ys.length) 0 (n+ys.length))
          (.slice (some ⟨w.heap.size,0,none⟩) (n+Ys.length) (grownCap w (n+Ys.length) old d.elem)):=by
      intro old a6 c0;have ce:=grownCap_ge w (n+Ys.length) old d.elem;have b2:=grownCap_le_maxLen w (n+Ys.length) old d.elem a1;have ak:grownCap w (n+Ys.length) old d.elem * z=((flat Us).toArray++(flat Ys).toArray++Builtin.zeroCells ze.cells (grownCap w (n+Ys.length) old d.elem-(n+Ys.length))).size:=by
        simp only[Array.size_append,List.size_toArray,size_zeroCells,bs,cY al,cY am, <-add_mul,aa]
        congr 1
        omega
      let cells:=(flat Us).toArray++(flat Ys).toArray++Builtin.zeroCells ze.cells (grownCap w (n+Ys.length) old d.elem-(n+Ys.length))
      have bj:=hI.drew (w.drawn+1);have an:∀b o,(⟨some ⟨w.heap.size,0,none⟩,n+ys.length,grownCap w (n+Ys.length) old d.elem,z,0⟩:A9).az b o->b=w.heap.size/\o<cells.size:=by rintro b o ⟨p,hp,rfl,e1,e2⟩;cases hp;refine⟨rfl, ?_⟩;show o<cells.size;rw[<-ak];simpa using e2
      obtain⟨g', e1,e2,e3,_⟩:=Kl (r':= ⟨some ⟨w.heap.size,0,none⟩,n+ys.length,grownCap w (n+Ys.length) old d.elem,z,0⟩) (t' := .Y (xs++ys)) (J:=λ_ _=>False) bj (w':= dN w.drew (.cells cells d.elem)) (.inl ⟨kl,rfl⟩)
        X5 rfl rfl rfl (λb hb _=>cO w.drew _ hb) (λb o hb _=>(cF (cO w.drew _ hb)).1) (λb o hb=>(cF (cO w.drew _ hb)).2) (λ_ _ h=>h.elim)
        (λb o ho=>by obtain⟨rfl,h2⟩:=an b o ho;refine⟨?_,j9 w.drew cells d.elem o, .inl (Nat.le_refl _)⟩;have:=dW w.drew cells d.elem o;exact⟨cells[o],this.trans (Array.getElem?_eq_getElem h2)⟩)
        (λr1 bq=>by have:r1=r0:=Option.some.inj (bq.symm.trans hv.hr);subst this;exact .inr ⟨by rw[hv.n,hn];show n<n+ys.length;omega,by rw[hv.sz]⟩)
        (λg' ai=>⟨m.symm,rfl,(by show n+ys.length<=grownCap w (n+Ys.length) old d.elem;omega),Us++Ys,(AL.mono ai _ _ (AL.mono (Ar.drew g w (w.drawn+1)).le _ _ hv.a1)).append (AL.mono ai _ _ (AL.mono (Ar.drew g w (w.drawn+1)).le _ _ a.a1)),(λe=>by cases e),x,λp hp=>by
          cases hp;refine⟨.inl rfl,fK x λj u hj=> ?_⟩;refine⟨trivial, ?_, ?_⟩
          · show (dN w.drew (.cells cells d.elem)).cell? ⟨w.heap.size,0+j,none⟩=some u
            rw[Nat.zero_add];refine(dW w.drew cells d.elem j).trans ?_;rw[gY]at hj;have hlt:=(List.getElem?_eq_some_iff.1 hj).1;rw[<-getElem?_toList,Array.toList_append,Array.toList_append,List.getElem?_append_left Yd];simpa using hj
          · have hm:=mem_of_getElem? hj
            rw[gY]at hm;exact(mem_append.1 hm).elim (a6 u) (a.one u)⟩)
      refine⟨g', (Ar.drew g w _).trans e1,e2,some ⟨w.heap.size,0,none⟩,grownCap w (n+Ys.length) old d.elem,by rw[ab];rfl,zero_le _,Nat.le_refl _,om,b2,(λ_=>⟨_,_,rfl⟩),_,e3,rfl,Nat.le_refl _,λ_=>⟨rfl,rfl,λ_=>⟨_,rfl,rfl,Wa⟩⟩⟩
    cases a0 with
    |none=>
      have ae:cap=0:=by
        rcases Nat.eq_zero_or_pos cap with h|h
        · exact h
        · obtain⟨b,o,hh⟩:=c5 h;cases hh
      subst ae;have aj:n=0:=om
      subst aj;have ad:=eq_nil_of_length_eq_zero aa;subst ad;obtain⟨g', n1,n2,n3⟩:=a4 0 Yk X8;have t:=run_append_nil (P:=P) w T R d.elem ie ze t2 u1 u8 sb Ys.length sc (flat Ys) a2 (λj v hj=>(f j v hj).1) i (by have:=a1;unfold maxLen at this;simp at this;omega) (by have:=a5 0 X8;rw[Nat.zero_add,nextslicecap_zero i]at this;exact this);refine⟨_,_,g', t, ?_, ?_, ?_⟩
      · simpa [flat]using n1
      · simpa [flat]using n2
      · simpa [flat]using n3
    |some p=>
      by_cases ay:0<cap
      case neg=>
        have ae:cap=0:=om
        subst ae;have aj:n=0:=om
        subst aj;have ad:=eq_nil_of_length_eq_zero aa;subst ad;obtain⟨g', n1,n2,n3⟩:=a4 0 Yk X8;have t:=run_append_grow (P:=P) w T R d.elem ie ze t2 u1 u8 p 0 0 (flat []) y (λj v hj=>by simp[flat]at hj) sb Ys.length sc (flat Ys) a2 (λj v hj=>(f j v hj).1) X8 (by have:=a1;unfold maxLen at this;omega) (a5 0 X8);exact⟨_,_,g', t,n1,n2,n3⟩
      obtain⟨q,hq,bo,bn⟩:=l3 ay;obtain⟨qb,qo,qs⟩:=q;cases (show qs=none from bo);cases bn;have b3:=(hv.mem _ hq).2;have af:∀(j:Nat) (v:Value),(flat Us)[j]? =some v->w.cell? ((⟨qb,qo,none⟩:Addr).add j)=some v/\v.oneCell'= true:=λj v hj=>by obtain⟨m1,m2,m3⟩:=b3.flat hj;rw[eO];exact⟨m2,m3⟩
      have b4:∀v∈flat Us,v.oneCell'= true:=λv hv=>by obtain⟨j,hj⟩:=List.getElem?_of_mem hv;exact(af j v hj).2
      by_cases a7:n+Ys.length<=cap
      · have ag:(Builtin.firstCells ie.size Ys.length (.slice (some sb) Ys.length sc)).run P w = .ok (flat Ys).toArray w:=run_firstCells_some (P:=P) w ie.size Ys.length sb Ys.length sc (flat Ys) a2 (λj v hj=>(f j v hj).1)
        have ax:n * z+(flat Ys).length<=r0.cap * z:=by rw[a2,u6,l, <-add_mul,l2];exact mul_le_mul_right _ a7
        have hpos:0<(flat Ys).length:=by rw[a2,u6,l];exact Nat.mul_pos i hz0
        have ba:∀j,j<(flat Ys).length->r0.az qb (qo+n * z+j):=λj hj=>by rw[add_assoc];exact hv.az hq om
        obtain⟨w', br,hs⟩:=tI (P:=P) qb (flat Ys) 0 (qo+n * z) w (λj hj=>(hI.tkz k r0 hv.hr qb _ (by simpa using ba j hj)).2.2.1) (λj hj=>(hI.tkz k r0 hv.hr qb _ (by simpa using ba j hj)).2.2.2) a.one;obtain⟨g', n1,n2,n3⟩:=HR hI hv hTk hq rfl hs ax hpos (ys:=xs++ys) (Us:=Us++Ys) (hv.a1.append a.a1) x (by rw[m,hn];omega) (.inr (by rw[m,hn];omega)) (by rw[m];omega)
          (fK x λj u hj=>by
            rw[gY]at hj;refine⟨trivial, ?_⟩;show w'.cell? ⟨qb,qo+j,none⟩=some u/\u.oneCell'= true;by_cases b1:j<(flat Us).length
            · rw[List.getElem?_append_left b1]at hj
              obtain⟨m1,m2⟩:=af j u hj;rw[eO]at m1;rw[y,u6,l]at b1;exact⟨(hs.there (qo+j) (.inl om)).trans m1,m2⟩
            · rw[List.getElem?_append_right om]at hj
              have b0:=hs.here (j-(flat Us).length) u hj;have ah:(flat Us).length=n * z:=by rw[y,u6,l]
              have az:qo+n * z+0+(j-(flat Us).length)=qo+j:=by rw[<-ah];omega
              rw[az]at b0;exact⟨b0,a.one u (mem_of_getElem? hj)⟩)
        refine⟨.slice (some ⟨qb,qo,none⟩) (n+Ys.length) cap,w', g', ?_,n1,n2,some ⟨qb,qo,none⟩,cap,by rw[ab];rfl,zero_le _,Nat.le_refl _,om,c4,(λ_=>⟨_,_,rfl⟩),_,n3,hz,by rw[m];exact Nat.le_refl _,λ_=>⟨hv.lo,l2,λ_=>⟨_,hq,rfl,Wa⟩⟩⟩;have aw:(⟨qb,qo,none⟩:Addr).add (n * ie.size)=⟨qb,qo+n * z,none⟩:=by rw[eO,u6,l]
        simp[Builtin.append_,run_underlying t2,sizeOf,typeInfo,u1,Builtin.lenOf,a7,ag,aw,br]
      · obtain⟨g', n1,n2,n3⟩:=a4 cap b4 om
        have t:=run_append_grow (P:=P) w T R d.elem ie ze t2 u1 u8 ⟨qb,qo,none⟩ n cap (flat Us) y (λj v hj=>(af j v hj).1) sb Ys.length sc (flat Ys) a2 (λj v hj=>(f j v hj).1) om (by have:=a1;unfold maxLen at this;omega) (a5 cap om);exact⟨_,_,g', t,n1,n2,n3⟩
def eI{x y:Operand}{n m:Nat}(hn:xs.length=n)(p:AD P A G K C (.tk::I) ((d, .Y k z m 0 m)::s) ⟨H.B,T'⟩)(hT:ty? P T=some ti:=by exact rfl)(hE:ty? P ti.elem=some te:=by exact rfl)(Y:ev? s x=some (.Y k z n 0 n):=by exact rfl)(hy:ev? s y=some (.slice ys t):=by exact rfl)(hk:ti.kind = .slice:=by exact rfl)(hz:Nat.beq te.size z=true:=by exact rfl)(hz0:Nat.blt 0 z=true:=by exact rfl)(hTk:H.T[k]? =some (.Y xs):=by exact rfl)(hf:eQ te.agg te.size ys=true:=by exact rfl)(o:n+ys.length=m:=by exact rfl)(hb:m * te.bytes<=140737488355328:=by dsimp only;omega)(hb': m<=4611686018427387904:=by dsimp only[List.length_cons,List.length_nil];omega)(hT': j5 k (.Y (xs++ys)) H.T some=some T':= by exact rfl):AD P A G K (⟨some d, .call ⟨.builtin .append, #[x,y], #[T,T]⟩,R,D,S,none⟩::C) I s H:=
  bT (t := .tk) (σ':= ⟨H.B,T'⟩) rfl ⟨rfl,λB=>by
    intro g w a next Q l f e
    subst o
    have h1:=op1 Y Wj f
    have h2:=op1 hy Wj f
    obtain⟨Ys,b⟩:=IX h2 hf
    obtain⟨q,c⟩:=d6 _ _ _ _ _ hT'
    obtain⟨v,w', g', e1,h,i,j⟩:=Ep (H:=⟨B,H.T⟩) (R:=R) hT hk hE (eq_of_beq_eq_true hz) (Nat.le_of_ble_eq_true hz0) l h1 b hTk hn hb hb'
    unfold Oper.wp
    rw[kC e1]
    refine e v w' g' h ?_ j
    rw[show (⟨H.B,T'⟩:St).T=T' from rfl, <-Option.some.inj c]
    exact i⟩ p
def dH{x y:Operand}{ys:List AV}{t': Tk}{m:Nat}(hf:eQ te.agg te.size ys=true)(hm:ys.length=m)(kk:AD P A G K C (.tk::I) ((d, .Y k te.size m 0 m)::s) ⟨H.B,T'⟩)(hT:ty? P T=some ti:=by exact rfl)(hE:ty? P ti.elem=some te:=by exact rfl)(Y:ev? s x=some (.slice [] t'):=by exact rfl)(hy:ev? s y=some (.slice ys t):=by exact rfl)(hk:ti.kind = .slice:=by exact rfl)(hz0:Nat.blt 0 te.size=true:=by exact rfl)(ht:t'.fresh=true:=by exact rfl)(e:dM H.T=some k:=by exact rfl)(hb:m * te.bytes<=140737488355328:=by dsimp only;omega)(hb': m<=4611686018427387904:=by omega)(hT': kU H.T (.Y ys) some=some T':= by exact rfl):AD P A G K (⟨some d, .call ⟨.builtin .append, #[x,y], #[T,T]⟩,R,D,S,none⟩::C) I s H:=
  bT (t := .tk) (σ':= ⟨H.B,T'⟩) rfl ⟨rfl,λB=>by
    intro g w a next Q u i h
    subst hm
    have h1:=op1 Y Wj i
    have h2:=op1 hy Wj i
    obtain⟨g1,e1,j,l⟩:=FG (z:=te.size) u ht h1
    obtain⟨Ys,b⟩:=IX (Ab.mono e1.le _ _ h2) hf
    have f:H.T.length=k:=dG e
    have c:H.T++[Tok.Y ys]=T':= Option.some.inj (eX _ _ _ _ hT')
    obtain⟨v,w', g', o,p,q,r⟩:=Ep (H:=⟨B,H.T++[.Y []]⟩) (R:=R) (n:=0) (xs:=[]) hT hk hE rfl (Nat.le_of_ble_eq_true hz0) j l b Wa rfl (by simpa using hb) (by simpa using hb')
    unfold Oper.wp
    rw[kC o]
    refine h v w' g' (e1.trans p) ?_ (by rw[<-f];simpa using r)
    have:(H.T++[Tok.Y []]).set H.T.length (.Y ([]++ys))=T':= by rw[<-c];simp
    rw[<-this]
    exact q⟩ kk
end rules
theorem xT{sz:Nat}:∀ {Vs:List Value} (i:Nat),(∀V∈Vs,V.cells.size=sz)->flat (Vs.take i)=(flat Vs).take (i * sz)
  |[],i,_=>by simp[flat]
  |V::Vs,0,h=>by simp[flat]
  |V::Vs,i+1,h=>by have a:=h V Wa;rw[List.take_succ_cons,lH,lH,xT i (λV a=>h V W5),succ_mul,Nat.add_comm,List.take_append,List.take_of_length_le (l:=V.cells.toList) (by rw[length_toList];omega),length_toList,a,Nat.add_sub_cancel_left]
theorem rV{sz:Nat}:∀ {Vs:List Value} (i:Nat),(∀V∈Vs,V.cells.size=sz)->flat (Vs.drop i)=(flat Vs).drop (i * sz)
  |[],i,_=>by simp[flat]
  |V::Vs,0,h=>by simp
  |V::Vs,i+1,h=>by have a:=h V Wa;rw[List.drop_succ_cons,lH,rV i (λV a=>h V W5),succ_mul,Nat.add_comm,List.drop_append,List.drop_of_length_le (l:=V.cells.toList) (by rw[length_toList];omega),length_toList,a,Nat.add_sub_cancel_left,List.nil_append]
theorem QI{sz:Nat}{j:Nat}{V': Value}(h:∀V∈Vs,V.cells.size=sz)(hj:j<Vs.length):flat (Vs.set j V')=(flat Vs).take (j * sz)++V'.cells.toList++(flat Vs).drop ((j+1) * sz):=by rw[List.set_eq_take_append_cons_drop,if_pos hj,gY,lH,xT j h,rV (j+1) h,List.append_assoc]
def FJ(z:Value)(n:Nat):flat (List.replicate n z)=(Builtin.zeroCells z.cells n).toList:=by
    apply List.ext_getElem?;intro k;have hs:∀V∈List.replicate n z,V.cells.size=z.cells.size:=λV b=>by rw[(List.mem_replicate.1 b).2]
    have hl:(flat (List.replicate n z)).length=n * z.cells.size:=by rw[cY hs,List.length_replicate]
    by_cases hk:k<n * z.cells.size
    · have hpos:0<z.cells.size:=by grind
      have X:k/z.cells.size<n:=Nat.div_lt_of_lt_mul (by rwa [Nat.mul_comm]);have he:k=k/z.cells.size * z.cells.size+k % z.cells.size:=by have:=Nat.div_add_mod k z.cells.size;rw[Nat.mul_comm]at this;exact this.symm
      have a:=vF (Vs:=List.replicate n z) (i:=k/z.cells.size) (j:=k % z.cells.size) (V:=z) hs (by simp[X]) (Nat.mod_lt _ hpos);rw[<-he]at a;rw[a];have c:k % z.cells.size<z.cells.size:=Nat.mod_lt _ hpos;simp only[Builtin.zeroCells,toList_map,List.getElem?_map,Array.toList_range];grind
    · rw[List.getElem?_eq_none om,List.getElem?_eq_none];simp[Builtin.zeroCells];omega
section
variable {P:Program} {g:Gh} {H:St} {w:World}
theorem BP.cp(h:BP g w k z xs r Vs):(flat Vs).length=xs.length * z:=by rw[cY h.size,h.len]
def Jc(i:Inv g H w){Us:List Value}(h:BP g w k z xs r Vs)(hT:H.T[k]? =some (.Y xs))(hp:r.base=some p)(q:p.spot=none){cs:List Value}
    (o:flat Us=(flat Vs).take at_++cs++(flat Vs).drop (at_+cs.length)) (y:at_<=(flat Vs).length) (l:at_+cs.length<=r.cap * z) (m:0<cs.length) (e:∀v∈cs,v.oneCell'= true) (hU:AL g w ys Us) (b:∀V∈Us,V.cells.size=z) (d:xs.length<=ys.length) (c:ys.length<=r.cap):
    ∃w' g', (storeCells ⟨p.block,p.off+at_,none⟩ cs).run P w = .ok () w'/\ Ar g w g' w'/\ Inv g' ⟨H.B,H.T.set k (.Y ys)⟩ w'/\ g'.tk[k]? =some { r with n:=ys.length }:=by
  have f:∀j,j<cs.length->r.az p.block (p.off+at_+j):=λj hj=>by rw[add_assoc];exact h.az hp om
  obtain⟨w', a1,hs⟩:=tI (P:=P) p.block cs 0 (p.off+at_) w (λj hj=>(i.tkz k r h.hr p.block _ (by simpa using f j hj)).2.2.1) (λj hj=>(i.tkz k r h.hr p.block _ (by simpa using f j hj)).2.2.2) e;obtain⟨g', n1,n2,n3⟩:=HR i h hT hp q hs l m hU b d om c
    (fK b λj u hj=>by
      refine⟨trivial, ?_⟩;rw[o]at hj;by_cases h1:j<at_
      · rw[List.append_assoc,List.getElem?_append_left Wh,List.getElem?_take_of_lt h1]at hj
        obtain⟨_,t,x⟩:=(h.mem p hp).2.flat hj;exact⟨(hs.there (p.off+j) (.inl om)).trans t,x⟩
      · by_cases h2:j<at_+cs.length
        · rw[List.getElem?_append_left Wh,List.getElem?_append_right Wh]at hj
          have a:((flat Vs).take at_).length=at_:=Wh
          rw[a]at hj;have:=hs.here (j-at_) u hj;grind
        · rw[List.getElem?_append_right Wh,getElem?_drop]at hj
          have a:((flat Vs).take at_++cs).length=at_+cs.length:=Wh
          rw[a,show at_+cs.length+(j-(at_+cs.length))=j by omega]at hj;obtain⟨_,t,x⟩:=(h.mem p hp).2.flat hj;exact⟨(hs.there (p.off+j) (.inr om)).trans t,x⟩)
  grind
def L9[Lay P]{c:TI}(hT:ty? P T=some c){b o a:Nat}{cs:List AV}{J:List Value}{v:AV}(hl:AL g w cs J)(f:∀u∈J,u.oneCell'= true)
    (d:∀(j:Nat) (u:Value),J[j]? =some u->w.cell? ⟨b,o+j,none⟩=some u) (hv:cut c.agg c.size a cs=some v):∃V,Ab g w v V/\(loadVar T ⟨b,o+a,none⟩).run P w = .ok V w:=by
  obtain⟨V,n,h2,h3,h4⟩:∃V,Ab g w v V/\(∀(j:Nat) (u:Value),V.cells[j]? =some u->w.cell? ⟨b,o+a+j,none⟩=some u)/\(c.agg=true->∃vs,V = .agg vs/\vs.size=c.size)/\(c.agg=false->V.cells = #[V]):=by
    rcases vW hv with⟨ha,_,rfl,l⟩|⟨ha,hg⟩
    · have i:=(hl.drop a).take c.size;have k:((J.drop a).take c.size).length=c.size:=by have:=(hl.drop a).length;simp_all
      refine⟨.agg ((J.drop a).take c.size).toArray,⟨_,rfl,X8,λu m=> ?_⟩,λj u hj=> ?_,λ_=>⟨_,rfl,by simpa using k⟩,λe=> ?_⟩
      · grind
      · rw[add_assoc];refine d _ u ?_;simp only[Value.cells,List.getElem?_toArray,List.getElem?_take,getElem?_drop]at hj;simp_all
      · simp_all
    · obtain⟨u,m,hr⟩:=hl.get hg;have h:=f u (mem_of_getElem? m);have O:u.cells = #[u]:=by cases u<;>first|rfl|cases h
      grind
  exact⟨V,n,lY hT h2 h3 h4⟩
end
def Ma(agg:Bool)(cs:List AV):Option AV:=
  match agg with
  |true=>some (.agg cs)
  |false=>match cs with
    |[c]=>some c
    |_=>none
def Km{g:Gh}{w:World}{agg:Bool}{cs:List AV}{LV:List Value}{e1:AV}(h:Ma agg cs=some e1)(hl:AL g w cs LV)(b:∀u∈LV,u.oneCell'= true):∃V': Value,V'.cells.toList=LV/\Ab g w e1 V':= by
  cases agg with
  |true=>cases h;exact⟨.agg LV.toArray,by simp[Value.cells],_,rfl,by simpa using hl,YC⟩
  |false=>
    match cs,h,hl with
    |[c],h,⟨u,C,e,h3,h4⟩=>
      cases h;have:C=[]:=h4;subst this;subst e;have a:=b u Wa;have d:u.cells = #[u]:=by cases u<;>first|rfl|cases a
      grind
    |[],h,_=>cases h
    |_::_::_,h,_=>cases h
section rules
variable {P:Program} [Lay P] {A:Array Oper} {G:Bool} {K:AX->AE->St->Prop} {C:List Oper} {I:List Ak} {s:AE} {H:St}
variable {d:Tmp} {R:TypeId} {D:String} {S:Array Edge}
def fM{x i:Operand}{n:Nat}{v:IntKind}{m:Int}{r:Nat}(kk:AD P A G K C (.pure::I) ((d, .an k z n r 0)::s) H)(hT:ty? P T=some ti:=by exact rfl)(hE:ty? P ti.elem=some te:=by exact rfl)(Y:ev? s x=some (.Y k z n lo X):=by exact rfl)(hi': ev? s i=some (.int v m):=by exact rfl)(hk:ti.kind = .slice:=by exact rfl)(hz:Nat.beq te.size z=true:=by exact rfl)(hj:m=(j:Int):=by exact rfl)(hlt:j<X-lo:=by assumption)(hr:lo+j=r:=by exact Nat.zero_add _):AD P A G K (⟨some d, .indexAddr T x i,R,D,S,none⟩::C) I s H:=
  bT rfl (eZ λg w a u=>by
    have h1:=op1 Y Wd u
    have h2:a.eval i = .int v m:=op1 hi' Wd u
    obtain⟨a0,cap,e,c1,c2,c3,c4,c5,rr,l,o,c,h6⟩:=h1
    obtain⟨y,t,z0,t1,t2,t3,t4,_⟩:=(eK hT).ex
    have hd:∃e,t = .slice e:=by rw[hk]at t3;cases t<;>first|exact⟨_,rfl⟩|cases t3
    obtain⟨el,rfl⟩:=hd
    have b:el=ti.elem:=t4
    subst b
    have q:te.size=z:=eq_of_beq_eq_true hz
    obtain⟨qb,qo,rfl⟩:=c5 om
    subst hj
    refine⟨.pointer (some ⟨qb,qo+j * z,none⟩), ?_,qb,qo+j * z,rfl,om,rr,l,o,c,λhn=> ?_⟩
    · rw[<-q]
      simp[execOp,Instr.indexAt,e,h2,asIntOf,run_underlying t2,Result.andThen,cZ hE,hlt,eO]
    · obtain⟨l1,l2,l3⟩:=h6 hn
      obtain⟨p,hp,h,f⟩:=l3 om
      cases f
      exact⟨l1,p,hp,h,rfl,by rw[<-hr,add_mul];omega⟩) kk
def j8{x:Operand}{f k z nn j i o n:Nat}{ag:Bool}{r:Nat}(kk:AD P A G K C (.pure::I) ((d, .an k z nn j r)::s) H)(hT:ty? P T=some ti:=by exact rfl)(Y:ev? s x=some (.an k z nn j i):=by exact rfl)(hf:ti.fields[f]? =some (o,n,ag):=by exact rfl)(hk:ti.kind = .struct:=by exact rfl)(hn:Nat.blt 0 n=true:=by exact rfl)(hr:i+o=r:=by exact rfl):AD P A G K (⟨some d, .fieldAddr T x f,R,D,S,none⟩::C) I s H:=
  bT rfl (eZ λg w a ho=>by
    have h1:=op1 Y Wd ho;obtain⟨b,oo,e,hj,rr,u,v,m,h6⟩:=h1;refine⟨.pointer (some ⟨b,oo+o,none⟩), ?_,b,oo+o,rfl,hj,rr,u,v,m,λhn=> ?_⟩
    · obtain⟨a4,dd,z,t1,t2,t3,t4,t5,t6,t7,t8,t9,ae,a1,af,a2⟩:=(eK hT).ex;have hd:∃fs,dd = .struct fs:=by rw[hk]at t3;cases dd<;>first|exact⟨_,rfl⟩|cases t3
      obtain⟨fs,rfl⟩:=hd;rw[<-a1]at hf;simp only[oB,List.getElem?_map,Option.map_eq_some_iff,Prod.mk.injEq]at hf;obtain⟨l,c,rfl,hs,_⟩:=hf;rw[getElem?_toList]at c;have h:=a2 fs rfl l Xj;have y:(sizeOf l.type).run P w = .ok n w:=by
        unfold sizeOf;cases hi': P.info? l.type with
        |none=>rw[hi']at h;simp at h
        |some a0=>
          have:P.cellsOf l.type=a0.size:=XJ
          simp only[Sem.run_bind,rX hi', Result.andThen];simp_all
      have q:n≠0:=XN
      simp only[execOp,e,Instr.fieldAt,Sem.run_bind,run_underlying t2,Result.andThen,c,Instr.sureAddr,Sem.run_pure,fieldPlace,y,if_neg q,eO]
    · obtain⟨l1,p,hp,t,rfl,rfl⟩:=h6 hn;exact⟨l1,p,hp,t,rfl,om⟩) kk
def Jd{g:Gh}{w:World}(f:Inv g H w){n j a:Nat}(h:Ab g w (.an k z n j a) u)(hT:H.T[k]? =some (.Y xs))(hn:xs.length=n):
    ∃r Vs p,BP g w k z xs r Vs/\r.base=some p/\p.spot=none/\u = .pointer (some ⟨p.block,p.off+j * z+a,none⟩)/\j<Vs.length:=by obtain⟨b,o,rfl,hj,r,hr,hz,i,e⟩:=h;obtain⟨t1,t2,v,Vs,d,l,m,q⟩:=f.tok k _ r hr hT;obtain⟨t,p,hp,c,rfl,rfl⟩:=e (by rw[t1,hn]);subst hz;exact⟨r,Vs,p,⟨hr,rfl,t1,t2,om,d,l,m,q⟩,hp,c,rfl,by rw[d.length,hn];exact hj⟩
def fF{x:Operand}{n j m:Nat}{y v:AV}(kk:AD P A G K C (.rt::I) ((d,v)::s) H)(hT:ty? P T=some ti:=by exact rfl)(Y:ev? s x=some (.an k z n j m):=by exact rfl)(hTk:H.T[k]? =some (.Y xs):=by exact rfl)(hn:xs.length=n:=by assumption)(hy:xs[j]? =some y:=by assumption)(hv:kT y (λcs=>cut ti.agg ti.size m cs)=some v:=by exact rfl):AD P A G K (⟨some d, .load T x,R,D,S,none⟩::C) I s H:=
  bT (t := .rt) rfl ⟨rfl,λB=>by intro g w a next Q hI ho q;have h1:=op1 Y Wd ho;obtain⟨r,Vs,p,l,hp,a3,e,hj⟩:=Jd (H:=⟨B,H.T⟩) hI h1 hTk hn;obtain⟨V,hV,hr⟩:=l.a1.get hy;obtain⟨cs,c,hl,f⟩:=jQ hv hr;obtain⟨m1,m2⟩:=(l.mem p hp).2 j V hV;obtain⟨W,hW,h⟩:=L9 (P:=P) hT (b:=p.block) (o:=p.off+j * z) hl f (λi u X=>(m2 i u (by rw[<-getElem?_toList];exact X)).2.1) c;unfold Oper.wp;simp only[execOp,e,Instr.loadAt,Instr.sureAddr,Sem.run_bind,Sem.run_pure,Result.andThen];rw[h];exact q W w g (fD g w) hI hW⟩ kk
theorem aX{x y:Operand}{n j off:Nat}{e0 e1 v:AV}{agg:Bool}(kk:AD P A G K C (.tk::I) s ⟨H.B,T'⟩)(hT:ty? P T=some ti:=by exact rfl)(Y:ev? s x=some (.an k z n j off):=by exact rfl)(hy:ev? s y=some v:=by exact rfl)(hf:fits ti.agg ti.size v=true:=by exact rfl)(hTk:H.T[k]? =some (.Y xs):=by exact rfl)(hn:xs.length=n:=by exact rfl)(he:xs[j]? =some e0:=by exact rfl)(hz:(agg||Nat.beq z 1)=true:=by exact rfl)(hpos:Nat.blt 0 ti.size=true:=by exact rfl)(hv:kT v (λvs=>kT e0 (λcs=>Ci off vs cs (Ma agg)))=some e1:=by exact rfl)(hT': j5 k (.Y (xs.set j e1)) H.T some=some T':= by exact rfl):AD P A G K (⟨none, .store T x y,R,D,S,none⟩::C) I s H:=
  bT (t := .tk) (v := .undef) (σ':= ⟨H.B,T'⟩) rfl ⟨rfl,λB=>by
    intro g w a next Q hI ho a6
    have h1:=op1 Y Wd ho
    have h2:=op1 hy Wd ho
    obtain⟨kl,a2⟩:=d6 _ _ _ _ _ hT'
    obtain⟨r,Vs,p,b,hp,a8,e,hj⟩:=Jd (H:=⟨B,H.T⟩) hI h1 hTk hn
    obtain⟨V,hV,hr⟩:=b.a1.get he
    obtain⟨vs,aa,m,a7⟩:=jQ hv h2
    obtain⟨cs,ab,c,am⟩:=jQ aa hr
    obtain⟨ah,ac⟩:=tG _ _ _ _ _ ab
    obtain⟨f1,_,f3,_⟩:=nM hf h2
    have a4:=b.size V (mem_of_getElem? hV)
    have ak:cs.length=z:=by rw[<-c.length];simpa using a4
    have ad:vs.length=ti.size:=by rw[<-m.length];simpa using f1
    have a9:AL g w (cs.take off++vs++cs.drop (off+vs.length)) (V.cells.toList.take off++(a.eval y).cells.toList++V.cells.toList.drop (off+vs.length)):=((c.take off).append m).append (c.drop _)
    have o:∀u∈V.cells.toList.take off++(a.eval y).cells.toList++V.cells.toList.drop (off+vs.length),u.oneCell'= true:=WN
    obtain⟨V', f,a3⟩:=Km ac a9 o
    have d:V'.cells.size=z:=by
      have:=congrArg List.length f
      grind
    have al:(flat Vs).length=Vs.length * z:=cY b.size
    have hb:(j+1) * z<=Vs.length * z:=mul_le_mul_right _ om
    rw[succ_mul]at hb
    have ag:Vs.length * z<=r.cap * z:=mul_le_mul_right _ (by rw[b.len];exact b.cap)
    have a5:(a.eval y).cells.toList.length=ti.size:=by simpa using f1
    have an:0<ti.size:=Nat.le_of_ble_eq_true hpos
    have l:V.cells.toList=((flat Vs).drop (j * z)).take z:=by
      apply List.ext_getElem?
      intro i
      by_cases X:i<z
      · rw[List.getElem?_take_of_lt X,getElem?_drop,vF b.size hV X]
        simp
      · rw[List.getElem?_eq_none Wh,List.getElem?_eq_none Wh]
    obtain⟨w', g', s1,s2,s3,s4⟩:=Jc (P:=P) (H:=⟨B,H.T⟩) hI b hTk hp a8 (at_:=j * z+off) (cs:=(a.eval y).cells.toList) (ys:=xs.set j e1) (Us:=Vs.set j V')
      (by
        rw[QI b.size hj,f,l,List.take_take,Nat.min_eq_left om,List.drop_take,drop_drop]
        have q:(flat Vs).take (j * z+off)=(flat Vs).take (j * z)++((flat Vs).drop (j * z)).take off:=by rw[<-List.take_add]
        have a0:(flat Vs).drop (j * z+off+(a.eval y).cells.toList.length)=((flat Vs).drop (j * z+(off+vs.length))).take (z-(off+vs.length))++(flat Vs).drop ((j+1) * z):=by
          have h:=(List.take_append_drop (z-(off+vs.length)) ((flat Vs).drop (j * z+(off+vs.length)))).symm
          rw[drop_drop,show j * z+(off+vs.length)+(z-(off+vs.length))=(j+1) * z by rw[succ_mul];omega]at h
          rw[a5, <-ad,add_assoc]
          exact h
        rw[q,a0]
        simp only[List.append_assoc])
      om om om a7 (b.a1.set j a3) (λU hU=>by
        rcases List.mem_or_eq_of_mem_set hU with h|rfl
        · exact b.size U h
        · exact d) Wa (by rw[List.length_set];exact b.cap)
    unfold Oper.wp
    simp only[execOp,e,Instr.storeAt,Instr.sureAddr,storeVar,Sem.run_bind,Sem.run_pure,Result.andThen,cZ hT,f1,ne_eq,not_true_eq_false,if_false]
    rw[add_assoc,s1]
    refine a6 undef w' g' s2 ?_ trivial
    rw[show (⟨H.B,T'⟩:St).T=T' from rfl, <-Option.some.inj a2]
    exact s3⟩ kk
def jH{x:Operand}{l:Nat}(j:AD P A G K C (.pure::I) ((d, .int .i64 n)::s) H)(hT:ty? P T=some ti:=by exact rfl)(Y:ev? s x=some (.Y k z l lo X):=by exact rfl)(hk:ti.kind = .slice:=by exact rfl)(hn:((X-lo:Nat):Int)=n:=by exact rfl):AD P A G K (⟨some d, .call ⟨.builtin .len, #[x], #[T]⟩,R,D,S,none⟩::C) I s H:=
  bT rfl (eZ λg w a i=>by
    obtain⟨m,cap,e,_⟩:=op1 Y Wj i;refine⟨.int .i64 (X-lo:Nat), ?_,by rw[hn];rfl⟩;obtain⟨c,b,z,t1,t2,f,_⟩:=(eK hT).ex;have h:∃e,b = .slice e:=WB
    obtain⟨el,rfl⟩:=h;simp[execOp,resolve,invoke,builtin,Builtin.len_,e,run_underlying t2,goInt,Result.andThen]) j
end rules
section rules
variable {P:Program} [Lay P] {A:Array Oper} {G:Bool} {K:AX->AE->St->Prop} {C:List Oper} {I:List Ak} {s:AE} {H:St}
variable {d:Tmp} {R:TypeId} {D:String} {S:Array Edge}
omit [Lay P] in
def nP{y:Operand}{nh b:Int}{h m:Nat}{c:BoundsCode}{g:Gh}{w:World}{a:Act}(hh:bnd? s (some y) b=some nh)(eh:nh=(h:Int))(i:h<=m)(e:Ab g w (ev s y) (a.eval y)):(Instr.sliceBound (a.eval y) m c).run P w = .ok h w:=by
  obtain⟨f,hy⟩:=Fs hh;rw[pR hy]at e;have d:a.eval y = .int f nh:=e;have hb:0<=(h:Int)/\(h:Int)<=(m:Int):=om
  simp only[Instr.sliceBound,d,asIntOf,eh,Sem.run_bind,Sem.run_pure,Result.andThen];simp_all
def FK{x:Operand}{lo X:Option Operand}{n l0 h0:Nat}{nl:Int}{t:TI}(l h:Nat){rl rh:Nat}(hT:ty? P T=some t)(hk:t.kind = .slice)(hE:ty? P t.elem=some te)(hz:Nat.beq te.size z=true)
    (Y:ev? s x=some (.Y k z n l0 h0)) (hl:bnd? s lo 0=some nl) (hh:bnd? s X ((h0-l0:Nat):Int)=some nh) (el:nl=(l:Int)) (eh:nh=(h:Int)) (h1:l<=h) (h2:h<=n-l0) (er:l0+l=rl) (v:l0+h=rh)
    (kk:AD P A G K C (.pure::I) ((d, .Y k z n rl rh)::s) H):AD P A G K (⟨some d, .slice T x lo X none,R,D,S,none⟩::C) I s H:=
  bT rfl (eZ λg w a ho=>by
    obtain⟨a0,cap,e,c1,c2,c3,c4,c5,rr,a8,a9,a4,h6⟩:=op1 Y Wd ho
    obtain⟨af,dd,z0,t1,t2,t3,t4,_⟩:=(eK hT).ex
    have hd:∃e,dd = .slice e:=Wi
    obtain⟨a1,rfl⟩:=hd
    have a2:a1=t.elem:=t4
    subst a2
    have aa:te.size=z:=eq_of_beq_eq_true hz
    have q:(execOp a.eval ⟨some d, .slice T x lo X none,R,D,S,none⟩).run P w = .ok (.value (.slice (if cap-l0=l then a0 else a0.map (·.add (l * z))) (h-l) (cap-l0-l))) w:=by
      have j:∀y,X=some y->(Instr.sliceBound (a.eval y) (cap-l0) .sliceAcap).run P w = .ok h w:=by
        intro y f
        subst f
        exact nP hh eh om (ho y Wd)
      have a5:∀y,lo=some y->(Instr.sliceBound (a.eval y) h .sliceB).run P w = .ok l w:=by
        intro y f
        subst f
        exact nP hl el h1 (ho y Wd)
      have a3:lo=none->l=0:=by
        intro u
        subst u
        have:(0:Int)=nl:=Option.some.inj hl
        omega
      have i:X=none->h=h0-l0:=by
        intro u
        subst u
        have:((h0-l0:Nat):Int)=nh:=Option.some.inj hh
        omega
      rw[<-aa]
      cases lo with
      |none=>
        have m:=a3 rfl
        subst m
        cases X with
        |none=>
          have c:=i rfl
          subst c
          simp[execOp,e,Instr.sliceAt,run_underlying t2,Result.andThen,Instr.slice,Instr.sliceBounds,cZ hE]
        |some y=>
          have:=j y rfl
          simp[execOp,e,Instr.sliceAt,run_underlying t2,Result.andThen,Instr.slice,Instr.sliceBounds,cZ hE,this]
      |some zz=>
        have r:=a5 zz rfl
        cases X with
        |none=>
          have c:=i rfl
          subst c
          simp[execOp,e,Instr.sliceAt,run_underlying t2,Result.andThen,Instr.slice,Instr.sliceBounds,cZ hE,r]
        |some y=>
          have:=j y rfl
          simp[execOp,e,Instr.sliceAt,run_underlying t2,Result.andThen,Instr.slice,Instr.sliceBounds,cZ hE,r,this]
    refine⟨_,q,_,cap,by rw[<-er, <-v];congr 1<;>omega,om,om,c3,c4,λO=> ?_,rr,a8,a9,a4,λhn=> ?_⟩
    · obtain⟨b,o,rfl⟩:=c5 om
      rw[if_neg om]
      exact⟨b,o+l * z,by simp[eO]⟩
    · obtain⟨l1,l2,l3⟩:=h6 hn
      refine⟨l1,l2,λO=> ?_⟩
      obtain⟨p,hp,a7,rfl⟩:=l3 om
      rw[if_neg om]
      refine⟨p,hp,a7, ?_⟩
      simp only[Option.map_some,eO,Option.some.injEq,Addr.mk.injEq,true_and,and_true]
      rw[<-er,add_mul]
      omega) kk
def QJ{x lo X p:Operand}{n o h0:Nat}{v u nm:Int}{f:TI}(l h m:Nat)(hT:ty? P T=some f)(hk:f.kind = .slice)(hE:ty? P f.elem=some te)
    (Y:ev? s x=some (.Y k z n o h0)) (hl:bnd? s (some lo) 0=some v) (hh:bnd? s (some X) 0=some u) (hm:bnd? s (some p) 0=some nm) (el:v=(l:Int)) (eh:u=(h:Int)) (em:nm=(m:Int)) (h1:l<=h) (h2:h<=m) (h3:m<=h0-o)
    (kk:AD P A G K C (.pure::I) ((d, .undef)::s) H):AD P A G K (⟨some d, .slice T x (some lo) (some X) (some p),R,D,S,none⟩::C) I s H:=
  bT rfl (eZ λg w a b=>by
    obtain⟨q,cap,e,c1,c2,c3,c4,c5,rr,a9,aa,a7,h6⟩:=op1 Y Wd b
    obtain⟨t,r,z0,t1,t2,y,t4,_⟩:=(eK hT).ex
    have hd:∃e,r = .slice e:=by rw[hk]at y;cases r<;>first|exact⟨_,rfl⟩|cases y
    obtain⟨i,rfl⟩:=hd
    have j:i=f.elem:=t4
    subst j
    have b1:=nP (P:=P) (w:=w) (a:=a) (c := .slice3Acap) hm em (show m<=cap-o by omega) (b p Wd)
    have b2:=nP (P:=P) (w:=w) (a:=a) (c := .slice3B) hh eh h2 (b X Wd)
    have b3:=nP (P:=P) (w:=w) (a:=a) (c := .slice3C) hl el h1 (b lo Wd)
    refine⟨.slice (if m=l then q else q.map (·.add (l * te.size))) (h-l) (m-l), ?_,trivial⟩
    simp[execOp,e,Instr.sliceAt,run_underlying t2,Result.andThen,Instr.slice,Instr.sliceBounds,cZ hE,b1,b2,b3]) kk
def QK{x y:Operand}{n i j m:Nat}(hT:ty? P T=some ti)(hk:ti.kind = .slice)(hE:ty? P ti.elem=some te)(hz:Nat.beq te.size z=true)(hz0:Nat.blt 0 z=true)
    (Y:ev? s x=some (.Y k z n 0 i)) (hy:ev? s y=some (.Y k z n j n)) (hTk:H.T[k]? =some (.Y xs)) (hn:xs.length=n) (bm:i<=j) (bn:j<=n) (hm:i+(n-j)=m) (hT': j5 k (.Y (xs.take i++xs.drop j++xs.drop m)) H.T some=some T')
    (kk:AD P A G K C (.tk::I) ((d, .Y k z n 0 m)::s) ⟨H.B,T'⟩):AD P A G K (⟨some d, .call ⟨.builtin .append, #[x,y], #[T,T]⟩,R,D,S,none⟩::C) I s H:=
  bT (t := .tk) (σ':= ⟨H.B,T'⟩) rfl ⟨rfl,λB=>by
    intro g w a next Q hI ho a7
    subst hm
    have h1:=op1 Y Wj ho
    have h2:=op1 hy Wj ho
    obtain⟨kl,a3⟩:=d6 _ _ _ _ _ hT'
    have f:te.size=z:=eq_of_beq_eq_true hz
    have az:0<z:=Nat.le_of_ble_eq_true hz0
    obtain⟨r,Vs,hv⟩:=FH (H:=⟨B,H.T⟩) hI h1 hTk hn
    have ax:Vs.length=n:=by rw[hv.len,hn]
    obtain⟨a0,cap,e0,_,_,c3,c4,c5,r0,aa,ab,aq,h6⟩:=h1
    have:r0=r:=Option.some.inj (aa.symm.trans hv.hr)
    subst this
    obtain⟨l1,l2,l3⟩:=h6 XO
    obtain⟨a1,cap1,e1,_,_,d3,d4,d5,r1,av,be,bb,k6⟩:=h2
    have:r1=r0:=Option.some.inj (av.symm.trans hv.hr)
    subst this
    obtain⟨m1,m2,m3⟩:=k6 XO
    have am:cap1=cap:=by rw[<-m2, <-l2]
    subst am
    simp only[Nat.sub_zero,Nat.zero_mul,Nat.add_zero]at e0 c5 l3
    obtain⟨bf,dd,z0,t1,t2,t3,t4,_⟩:=(eK hT).ex
    have hd:∃e,dd = .slice e:=Wi
    obtain⟨el,rfl⟩:=hd
    have an:el=ti.elem:=t4
    subst an
    obtain⟨ie,de,ze,u1,u2,u3,u4,u5,u6,u7,u8,u9,c6,c7,c8,c9⟩:=(eK hE).ex
    have u:i+(n-j)<=cap1:=om
    by_cases a5:j=n
    · -- nothing is moved
      subst a5
      have aj:a.eval y = .slice a1 0 (cap1-j):=by rw[e1,Nat.sub_self]
      have o:(Builtin.firstCells ie.size 0 (.slice a1 0 (cap1-j))).run P w = .ok #[] w:=by
        cases a1<;>simp[Builtin.firstCells,loadCells,loadCellsFrom]
      have ap:i<=cap1:=om
      have c:(Builtin.append_ #[T,T] R #[a.eval x,a.eval y]).run P w = .ok (.slice a0 i cap1) w:=by
        rw[e0,aj]
        cases a0<;>simp[Builtin.append_,run_underlying t2,sizeOf,typeInfo,u1,Builtin.lenOf,ap,o,storeCells]
      unfold Oper.wp
      rw[kC c]
      have hsame:xs.take i++xs.drop j++xs.drop (i+(j-j))=xs:=by
        rw[List.drop_eq_nil_of_le (show xs.length<=j by omega),List.append_nil,Nat.sub_self,Nat.add_zero,List.take_append_drop]
      refine a7 _ w g (fD g w) ?_ ⟨a0,cap1,(by rw[Nat.sub_self];rfl),zero_le _,om,c3,c4,c5,r1,aa,ab,aq,λbp=>⟨l1,l2,λO=>by simpa using l3 O⟩⟩
      rw[show (⟨H.B,T'⟩:St).T=T' from rfl, <-Option.some.inj a3,hsame,FI hTk]
      exact hI
    · obtain⟨p,hp,a9,ar⟩:=l3 om
      obtain⟨q,hq,br,au⟩:=m3 om
      have:q=p:=Option.some.inj (hq.symm.trans hp)
      subst this
      subst ar;subst au
      have a6:=(hv.mem _ hp).2
      have ao:flat (Vs.drop j)=(flat Vs).drop (j * z):=rV j hv.size
      have l:(flat (Vs.drop j)).length=(n-j) * ie.size:=by
        rw[cY (sz:=z) (λV h=>hv.size V (List.mem_of_mem_drop h)),List.length_drop,ax,u6,f]
      have b:∀(jj:Nat) (v:Value),(flat (Vs.drop j))[jj]? =some v->w.cell? ((⟨q.block,q.off+j * z,none⟩:Addr).add jj)=some v/\v.oneCell'= true:=λjj v hj=>by
        rw[ao,getElem?_drop]at hj
        obtain⟨_,f2,f3⟩:=a6.flat hj
        rw[eO,add_assoc]
        exact⟨f2,f3⟩
      have a8:∀v∈flat (Vs.drop j),v.oneCell'= true:=λv hv=>by
        obtain⟨jj,hj⟩:=List.getElem?_of_mem hv
        exact(b jj v hj).2
      have o:=run_firstCells_some (P:=P) w ie.size (n-j) ⟨q.block,q.off+j * z,none⟩ (n-j) (cap1-j) (flat (Vs.drop j)) l (λjj v hj=>(b jj v hj).1)
      have hpos:0<(flat (Vs.drop j)).length:=by rw[l,u6,f];exact Nat.mul_pos om az
      have bc:i * z+(n-j) * z<=n * z:=by rw[<-add_mul];exact mul_le_mul_right _ om
      have al:n * z<=r1.cap * z:=mul_le_mul_right _ om
      have aw:∀V∈Vs.take i++Vs.drop j++Vs.drop (i+(n-j)),V.cells.size=z:=λV h=>by
        simp only[mem_append]at h
        rcases h with (h|h)|h
        · exact hv.size V (List.mem_of_mem_take h)
        · exact hv.size V (List.mem_of_mem_drop h)
        · exact hv.size V (List.mem_of_mem_drop h)
      have ay:(xs.take i++xs.drop j++xs.drop (i+(n-j))).length=n:=Wh
      obtain⟨w', g', s1,s2,s3,s4⟩:=Jc (P:=P) (H:=⟨B,H.T⟩) hI hv hTk hp a9 (at_:=i * z) (cs:=flat (Vs.drop j)) (ys:=xs.take i++xs.drop j++xs.drop (i+(n-j))) (Us:=Vs.take i++Vs.drop j++Vs.drop (i+(n-j)))
        (by
          rw[gY,gY,xT i hv.size,rV (i+(n-j)) hv.size,l,u6,f,add_mul])
        (by rw[hv.cp,hn];omega) (by rw[l,u6,f];omega) hpos a8 (((hv.a1.take i).append (hv.a1.drop j)).append (hv.a1.drop _)) aw om om
      have a4:(⟨q.block,q.off,none⟩:Addr).add (i * ie.size)=⟨q.block,q.off+i * z,none⟩:=by rw[eO,u6,f]
      have c:(Builtin.append_ #[T,T] R #[a.eval x,a.eval y]).run P w = .ok (.slice (some ⟨q.block,q.off,none⟩) (i+(n-j)) cap1) w':= by
        rw[e0,e1]
        simp[Builtin.append_,run_underlying t2,sizeOf,typeInfo,u1,Builtin.lenOf,u,o,a4,s1]
      unfold Oper.wp
      rw[kC c]
      refine a7 _ w' g' s2 ?_ ⟨some ⟨q.block,q.off,none⟩,cap1,rfl,zero_le _,om,c3,c4,(λ_=>⟨_,_,rfl⟩),{ r1 with n:=(xs.take i++xs.drop j++xs.drop (i+(n-j))).length },s4,ab,Nat.le_of_eq ay.symm,λ_=>⟨hv.lo,l2,λ_=>⟨q,hp,a9,by rw[Nat.zero_mul];rfl⟩⟩⟩
      rw[show (⟨H.B,T'⟩:St).T=T' from rfl, <-Option.some.inj a3]
      exact s3⟩ kk
def QL{x:Operand}{n:Nat}{i:TI}(hT:ty? P T=some ti)(hk:ti.kind = .slice)(hE:ty? P ti.elem=some i)(hz:Nat.beq i.size z=true)(hz0:Nat.blt 0 z=true)
    (Y:ev? s x=some (.Y k z n lo X)) (hTk:H.T[k]? =some (.Y xs)) (hn:xs.length=n) (hT': j5 k (.Y (xs.take lo++List.replicate (X-lo) i.zero++xs.drop X)) H.T some=some T')
    (kk:AD P A G K C (.tk::I) s ⟨H.B,T'⟩):AD P A G K (⟨none, .call ⟨.builtin .clear, #[x], #[T]⟩,R,D,S,none⟩::C) I s H:=
  bT (t := .tk) (v := .undef) (σ':= ⟨H.B,T'⟩) rfl ⟨rfl,λB=>by
    intro g w a next Q hI ho q
    have h1:=op1 Y Wj ho
    obtain⟨kl,j⟩:=d6 _ _ _ _ _ hT'
    have a1:i.size=z:=eq_of_beq_eq_true hz
    have ah:0<z:=Nat.le_of_ble_eq_true hz0
    obtain⟨r,Vs,hv⟩:=FH (H:=⟨B,H.T⟩) hI h1 hTk hn
    obtain⟨a0,cap,e0,c1,c2,c3,c4,c5,r0,aa,az,aw,h6⟩:=h1
    have:r0=r:=Option.some.inj (aa.symm.trans hv.hr)
    subst this
    obtain⟨l1,l2,l3⟩:=h6 XO
    obtain⟨am,dd,z0,t1,t2,t3,t4,_⟩:=(eK hT).ex
    have hd:∃e,dd = .slice e:=Wi
    obtain⟨el,rfl⟩:=hd
    have a6:el=ti.elem:=t4
    subst a6
    have u:∀ {w': World},(Builtin.clear_ #[T] R #[a.eval x]).run P w = .ok (.tuple #[]) w'->
        (execOp a.eval ⟨none, .call ⟨.builtin .clear, #[x], #[T]⟩,R,D,S,none⟩).run P w = .ok (.value (.tuple #[])) w':= by
      intro w' h
      have o:Array.map a.eval #[x] = #[a.eval x]:=Wa
      simp only[execOp,resolve,Sem.run_bind,Sem.run_pure,Result.andThen,invoke,builtin,o,h]
    by_cases l:X-lo=0
    · have d:(Builtin.clear_ #[T] R #[a.eval x]).run P w = .ok (.tuple #[]) w:=by
        rw[e0,l]
        cases a0<;>simp[Builtin.clear_,run_underlying t2]
      unfold Oper.wp
      rw[u d]
      refine q _ w g (fD g w) ?_ trivial
      have hsame:xs.take lo++List.replicate (X-lo) i.zero++xs.drop X=xs:=by
        rw[l,show X=lo by omega];simp
      rw[show (⟨H.B,T'⟩:St).T=T' from rfl, <-Option.some.inj j,hsame,FI hTk]
      exact hI
    · obtain⟨p,hp,a9,rfl⟩:=l3 om
      obtain⟨zv,ai,af,a2,ag⟩:=nQ hE w
      have ac:Ab g w i.zero zv:=by rw[<-af];exact kR g w zv
      have a7:flat (List.replicate (X-lo) zv)=(Builtin.zeroCells zv.cells (X-lo)).toList:=FJ zv _
      have c:(flat (List.replicate (X-lo) zv)).length=(X-lo) * z:=by
        rw[cY (sz:=z) (λV b=>by rw[(List.mem_replicate.1 b).2,a2,a1]),List.length_replicate]
      have ad:∀V∈Vs.take lo++List.replicate (X-lo) zv++Vs.drop X,V.cells.size=z:=λV b=>by
        simp only[mem_append]at b
        rcases b with (b|b)|b
        · exact hv.size V (List.mem_of_mem_take b)
        · rw[(List.mem_replicate.1 b).2,a2,a1]
        · exact hv.size V (List.mem_of_mem_drop b)
      have ab:∀m:Nat,AL g w (List.replicate m i.zero) (List.replicate m zv):=by
        intro m
        induction m with
        |zero=>exact rfl
        |succ m E=>exact⟨zv,_,rfl,ac,E⟩
      have ay:(xs.take lo++List.replicate (X-lo) i.zero++xs.drop X).length=n:=Wh
      have f:X * z=lo * z+(X-lo) * z:=by rw[<-add_mul];congr 1;omega
      have hb:X * z<=n * z:=mul_le_mul_right _ c2
      have a5:n * z<=r0.cap * z:=mul_le_mul_right _ om
      obtain⟨w', g', s1,s2,s3,s4⟩:=Jc (P:=P) (H:=⟨B,H.T⟩) hI hv hTk hp a9 (at_:=lo * z) (cs:=flat (List.replicate (X-lo) zv)) (ys:=xs.take lo++List.replicate (X-lo) i.zero++xs.drop X) (Us:=Vs.take lo++List.replicate (X-lo) zv++Vs.drop X)
        (by rw[gY,gY,xT lo hv.size,rV X hv.size,c, <-f])
        (by rw[hv.cp,hn];omega) (by rw[c];omega) (by rw[c];exact Nat.mul_pos om ah) (λv ae=>by
          obtain⟨V,b,y⟩:=List.mem_flatMap.1 ae
          rw[(List.mem_replicate.1 b).2]at y
          exact ag v y) (((hv.a1.take lo).append (ab _)).append (hv.a1.drop _)) ad om om
      have d:(Builtin.clear_ #[T] R #[a.eval x]).run P w = .ok (.tuple #[]) w':= by
        obtain⟨mm,a8⟩:∃mm,X-lo=mm+1:=⟨X-lo-1,om⟩
        rw[e0]
        rw[a7]at s1
        rw[a8]at s1 ⊢
        simp[Builtin.clear_,run_underlying t2,ai,s1]
      unfold Oper.wp
      rw[u d]
      refine q _ w' g' s2 ?_ trivial
      rw[show (⟨H.B,T'⟩:St).T=T' from rfl, <-Option.some.inj j]
      exact s3⟩ kk
end rules
def AJ(H:St)(x:AV)(σ': St)(y:AV):Prop:=∀(g:Gh) (w:World) (v:Value),Inv g H w->Ab g w x v->∃g', Ar g w g' w/\Inv g' σ' w/\Ab g' w y v
def eU(H:St)(x:AV):AJ H x H x:=λg w v X h=>⟨g,fD g w,X,h⟩
theorem AJ.a6{H:St}(h:AC x y):AJ H x H y:=λg w v X hr=>⟨g,fD g w,X,h g w v hr⟩
theorem AJ.trans{H a b:St}{z:AV}(h:AJ H x a y)(k:AJ a y b z):AJ H x b z:=λg w v X hr=>by obtain⟨d,e1,f,j⟩:=h g w v X hr;obtain⟨e,c,i,l⟩:=k d w v f j;exact⟨e,e1.trans c,i,l⟩
def b6{H:St}{n:Nat}(hT:H.T[k]? =some (.Y xs))(hn:xs.length=n)(hT': j5 k (.len (n+1)) H.T some=some T'):
    AJ H (.Y k z n lo X) ⟨H.B,T'⟩ (.slice ((xs.take X).drop lo) .no):=λg w v hi' hr=>by
  obtain⟨d,a⟩:=d6 _ _ _ _ _ hT';obtain⟨g', e1,b,c⟩:=L8 hi' hr hT hn;grind
def kE{H:St}(ht:t.fresh=true)(hk:dM H.T=some k)(hT': kU H.T (.Y []) some=some T'):AJ H (.slice [] t) ⟨H.B,T'⟩ (.Y k z 0 0 0):=λg w v X hr=>by obtain⟨g', e1,b,a⟩:=FG (z:=z) X ht hr;rw[dG hk]at a;refine⟨g', e1, ?_,a⟩;have:H.T++[Tok.Y []]=T':= Option.some.inj (eX _ _ _ _ hT');simp_all
def cU{H:St}{i c:Nat}{cs:List AV}{z0:AV}{T1 T': List Tok}(hT:H.T[k]? =some (.Y xs))(X:xs[i]? =some (.agg cs))(O:cs[c]? =some x)(h:AJ H x ⟨H.B,T1⟩ y)(a8:T1[k]? =some (.Y xs))(hT': j5 k (.Y (xs.set i (.agg (cs.set c y)))) T1 some=some T'):
    AJ H z0 ⟨H.B,T'⟩ z0:=λg w v hI hr=>by
  obtain⟨kl,a9⟩:=d6 _ _ _ _ _ hT';have aa:k<g.tk.length:=by rw[hI.lenT];exact(List.getElem?_eq_some_iff.1 hT).1
  have a0:g.tk[k]? =some g.tk[k]:=List.getElem?_eq_getElem aa;obtain⟨t1,t2,t3,Vs,t4,t5,t6,t7⟩:=hI.tok k _ _ a0 hT;obtain⟨V,hV,a7⟩:=t4.get X;obtain⟨J,rfl,hl,af⟩:=a7;obtain⟨u,hu,ac⟩:=hl.get O;obtain⟨g1,e1,a,r1⟩:=h g w u hI ac;refine⟨g1,e1, ?_,Ab.mono e1.le _ _ hr⟩;rw[<-Option.some.inj a9];refine⟨a.lenB,by simpa using a.lenT,a.ob,a.nodup,a.noim,λj t r hj ht=> ?_,a.tkz,a.tkd,a.imlt,a.gl⟩;by_cases e:j=k
  · subst e;simp only[List.getElem?_set_self kl,Option.some.injEq]at ht;subst ht;obtain⟨s1,s2,s3,Ws,s4,s5,s6,s7⟩:=a.tok j _ r hj a8;have hsame:∀(p:Addr),r.base=some p->Ws[i]? =some (.agg J):=by
      intro p hp;obtain⟨r', z,hh⟩:=e1.le.tk j _ a0;rw[hj]at z;cases z;have ab:r=g.tk[j]:=Xw
      subst ab;have f:i<Ws.length:=by rw[s4.length];exact(List.getElem?_eq_some_iff.1 X).1
      obtain⟨m1,m2⟩:=(t7 p hp).2 i _ hV;obtain⟨n1,n2⟩:=(s7 p hp).2 i _ (List.getElem?_eq_getElem f);obtain⟨W,hW,d⟩:=s4.get X;rw[List.getElem?_eq_getElem f]at hW;cases hW;obtain⟨ws,b,n,o⟩:=d;rw[List.getElem?_eq_getElem f,b];rw[b]at n1 n2;congr 2;apply Array.ext_getElem?;intro q;have a4:ws.size=J.size:=by have h1:(Value.agg ws).cells.size=(Value.agg J).cells.size:=n1.trans m1.symm;exact h1
      by_cases l:q<J.size
      · have a1:=(m2 q J[q] (by simp[Value.cells,l])).2.1;have a2:=(n2 q ws[q] (by simp[Value.cells,a4▸l])).2.1;rw[a1]at a2;rw[Array.getElem?_eq_getElem l,Array.getElem?_eq_getElem (a4▸l)];exact a2.symm
      · rw[Array.getElem?_eq_none om,Array.getElem?_eq_none om]
    cases hb:r.base with
    |none=>have:=s5 hb;subst this;have h0:=s4.length;have:i<xs.length:=(List.getElem?_eq_some_iff.1 X).1;simp at h0;omega
    |some p=>
      have m:=hsame p hb;obtain⟨W,hW,d⟩:=s4.get X;rw[m]at hW;cases hW;obtain⟨ws,b,n,o⟩:=d;cases b;have a3:Ab g1 w (.agg (cs.set c y)) (.agg J):=⟨J,rfl,by have:=n.set c r1;rwa [rS hu]at this,o⟩;refine⟨by simpa using s1,s2,s3,Ws, ?_,(λh=>by rw[hb]at h;cases h),s6,λq l=> ?_⟩
      · have:=s4.set i a3;rwa [rS m]at this
      · rw[hb]at l;cases l;exact s7 p hb
  · rw[List.getElem?_set_ne (Ne.symm e)]at ht;exact a.tok j t r hj ht
section
variable {P:Program} {N:Nat} {D:List Deferred} {c:Code} {K:AX->AE->St->Prop} {s:AE} {H:St}
def bY(b:Nat)(Y:lk? s b=some x)(h:AJ H x σ' y)(k:AB P N D c K ((b,y)::s) σ'):AB P N D c K s H:=λg w a X hs ha j=>by
  have h1:=hs b;rw[g9 Y]at h1;obtain⟨i,e1,d,f⟩:=h g w _ X h1;refine wp_mono (k i w a d (λu=> ?_) ha j) λ_ _ _ hp=>hp.trans e1
  unfold lk;cases e:Nat.beq b u with
  |true=>have:=eq_of_beq_eq_true e;subst this;exact f
  |false=>exact Ab.mono e1.le _ _ (hs u)
def f8(i j:Nat){cs:List AV}{T1:List Tok}{B': List Ob}(l:H.B[i]? =some (.cells cs))(Y:cs[j]? =some x)(ht:AJ H x ⟨H.B,T1⟩ y)(m:H.B.set i (.cells (cs.set j y))=B')(h:AB P N D c K s ⟨B', T1⟩):AB P N D c K s H:=λg w a X hs ha hd=>by
  have hlt:i<g.bx.length:=by rw[X.lenB];exact(List.getElem?_eq_some_iff.1 l).1
  have hb:g.bx[i]? =some g.bx[i]:=List.getElem?_eq_getElem hlt;obtain⟨J,R,r,q2,q3⟩:=X.ob i _ _ hb l;obtain⟨u,hu,hr⟩:=q2.get Y;obtain⟨o,e1,b,v⟩:=ht g w u X hr;have z:Inv o ⟨B', T1⟩ w:=by
    refine⟨by rw[b.lenB, <-m];simp,b.lenT,λp t f h1 h2=> ?_,b.nodup,b.noim,b.tok,b.tkz,b.tkd,b.imlt,b.gl⟩;by_cases e:i=p
    · subst e;have d:=e1.le.bx _ _ hb;rw[d]at h1;cases h1;have k:f = .cells (cs.set j y):=by grind
      subst k;obtain⟨n,a5,q,p2,p3⟩:=b.ob i _ _ d l;rw[r]at q;cases q;refine⟨J,R,r, ?_,q3⟩;have:=AL.set j p2 v;rwa [rS hu]at this
    · refine b.ob p t f h1 ?_;grind
  exact wp_mono (h o w a z (λu=>Ab.mono e1.le _ _ (hs u)) ha hd) λ_ _ _ hp=>hp.trans e1
def FL{c:Code}(I:Nat->AE->St->Prop){n:Nat}(v:Sub s0 s)(h0:I n s0 H)
    (d:∀n f b,I n f b->AB P N D c (thn (λs' σ'=> ∃m,m<n/\∃i nB mT,b.B.length<=nB/\b.T.length<=mT/\Sub i s'/\ aM nB mT i=true/\aQ nB mT (σ'.B.take nB)=true/\aL nB mT (σ'.T.take mT)=true/\
      I m i ⟨σ'.B.take nB,σ'.T.take mT⟩) K) f b):AB P N D (.loop c) K s H:=λg w a X hr ha r=>by
  refine Ef (λn j w'=> ∃f b h,I n f b/\Ar g w h w'/\ Inv h b w'/\ A3 h w' f j.tmps/\j.tmps.size=N/\j.defers=D) ?_ (n:=n) ⟨s0,H,g,h0,fD g w,X,v.a1 hr,ha,r⟩;rintro n a w1 ⟨f,b,h,hI,Y,X,hr,ha,r⟩;have a0:=X.lenB;have a4:=X.lenT;refine wp_mono (d n f b hI h w1 a X hr ha r) ?_;rintro e j w' ⟨z,s', σ', g', e1,e2,e3,e4,e5,e6,e7⟩;cases z with
  |normal=>cases (show e = .normal from e1);obtain⟨m,hm,i,nB,mT,a3,a2,y,q,o,p,k⟩:=e7;exact⟨m,hm,i,_,_,k,Y.trans (rQ e4 om om),pF e5 o p,λt=>Ab.aa _ _ (rP q t) (y.a1 e6 t),e2,e3⟩
  |exit id=>cases (show e = .exit id from e1);exact⟨.exit id,s', σ', g', rfl,e2,e3,Y.trans e4,e5,e6,e7⟩
  |goto l=>cases (show e = .goto l from e1);exact⟨.goto l,s', σ', g', rfl,e2,e3,Y.trans e4,e5,e6,e7⟩
  |ret=>cases (show e = .ret from e1);exact⟨.ret,s', σ', g', rfl,e2,e3,Y.trans e4,e5,e6,e7⟩
  |pan x=>obtain⟨u,rfl,hu⟩:=e1;exact⟨.pan x,s', σ', g', ⟨u,rfl,hu⟩,e2,e3,Y.trans e4,e5,e6,e7⟩
def jI{args:List AV}{r:AV}(O:r.K=true)(ha:aB args=true)(h:AQ P f args ⟨[],[]⟩ (λe H=>∃v σ', e = .ret v/\AJ H v σ' r)):AN P f args r:=by
  refine⟨h.1,ha,λim w J d c hl=> ?_⟩;have X:Inv ⟨[],[],im⟩ ⟨[],[]⟩ w:=⟨rfl,rfl,λi b ob h=>Wm,List.nodup_nil,λb h=>Wm,λk t r h=>Wm,λk r h=>Wm,
    λk y r r' _ h=>Wm,d,c⟩
  refine(h.2 _ w J X hl).mono ?_;rintro e w' ⟨g', σ', x,h1,h2,h3,v,σ2,rfl,hw⟩;obtain⟨u,rfl,m⟩:=h3;obtain⟨l,n,o,p⟩:=hw g' w' u h2 m;have a:=h1.trans n;obtain⟨j,q,g⟩:=l;refine⟨g,⟨⟨a.le.im,λi b h=>Wm,λk r h=>Wm⟩,a.size,a.os,a.tape,a.output,a.fr,a.frc,a.newim,λb h=>Wm,λk r h=>Wm⟩,o.imlt,u,rfl,pP r u O p⟩
end
end Go.Av
