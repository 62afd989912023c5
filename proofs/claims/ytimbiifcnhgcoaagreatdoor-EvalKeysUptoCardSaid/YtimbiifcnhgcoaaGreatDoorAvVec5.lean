/- Joined texts. -/
import Derived.Laws.MakeOwn
import Derived.Test.YtimbiifcnhgcoaaGreatDoorAvAppend
set_option linter.all false
open List (drop_drop eq_nil_of_length_eq_zero getElem?_drop mem_append mem_of_getElem?)
open Nat (add_assoc add_mul eq_of_beq_eq_true mul_le_mul_right succ_mul zero_le)
open Array (getElem?_toList length_toList toList_map)
open Go Go.Av
variable{r:A8}{s0:AE}{x y:AV}{p:Addr}{args:Array Operand}{a:Array Value}{b:Bool}{f:FuncId}{n nh:Int}{xs ys:List AV}{e:List Field}{T':List Tok}{Vs:List Value}{k z at_ lo X j:Nat}{Y:St}{ti te:TI}{t:Tk}{T U:TypeId}{u v:Value}{w':World}
namespace Go.Av
open Go
variable [AL]
def jZ(s:AE):List Operand->(List AV->Option (List AV))->Option (List AV)
  |[],k=>k []
  |x::xs,k=>match ev? s x with
    |some v=>jZ s xs λr=>k (v::r)
    |none=>none
def gV{s:AE}:∀(xs:List Operand) (k:List AV->Option (List AV)) (r:List AV),jZ s xs k=some r->k (xs.map (ev s))=some r
  |[],k,r,h=>h
  |x::xs,k,r,h=>by
    unfold jZ at h;cases e:ev? s x with
    |none=>rw[e]at h;cases h
    |some v=>simp only[e]at h;have:=gV xs _ r h;rw[List.map_cons,pW e];exact this
def jC{g:Gh}{w:World}{s:AE}{a:Act}:∀xs:List Operand,(∀x∈xs,Aa g w (ev s x) (a.eval x))->AM g w (xs.map (ev s)) (xs.map a.eval)
  |[],_=>rfl
  |x::xs,h=>⟨_,_,rfl,h x Wb,jC xs λy b=>h y X9⟩
theorem s9{P:Program}(h:Ax P f)(args:Array Value)(w:World):(callFunc f args).run P w = .ok (.enter f args) w:=by
  obtain⟨fn,d,a,h3⟩:=h;unfold callFunc;have b:¬fn.name = "runtime.NumGoroutine" :=by simpa using a
  have c:¬fn.body=none:=WZ
  simp_all
section rules
variable {P:Program} {A:Array Oper} {G:Bool} {K:AX->AE->St->Prop} {C:List Oper} {I:List Aj} {s:AE} {H:St}
variable {d:Option Tmp} {R:TypeId} {D:String} {S:Array Edge}
theorem j9(h:Ax P f){p:Array TypeId}(a:Act)(w:World):
    (execOp a.eval ⟨d, .call ⟨.value (.func f),args,p⟩,R,D,S,none⟩).run P w = .ok (.enter f (args.map a.eval)) w:=by simp only[execOp,resolve,Act.eval,Deferred.ofValue,Sem.run_bind,Sem.run_pure,Result.andThen,invoke];simpa using s9 h (args.map a.eval) w
def aH{p:Array TypeId}{J b:List AV}{r:AV}(ha:jZ s args.toList some=some J)(hp:AN P f b r)(hw:AA J b)
    (k:AD P A G K C (.pure::I) (iG d r s) H):AD P A G K (⟨d, .call ⟨.value (.func f),args,p⟩,R,D,S,none⟩::C) I s H:=
  bU (t := .pure) rfl ⟨rfl,λτ=>by
    intro g w a next Q i n hn;have o:args.toList.map (ev s)=J:=Option.some.inj (gV _ _ _ ha);have l:=jC (g:=g) (w:=w) (s:=s) (a:=a) args.toList (λx hx=>n x Wq);rw[o]at l;have j:AM ⟨[],[],g.im⟩ w b (args.map a.eval).toList:=by rw[toList_map];exact jY (bx:=g.bx) (tk:=g.tk) _ _ hp.2.1 (hw _ _ _ l)
    unfold Oper.wp;rw[j9 hp.1 a w];refine(hp.2.2 g.im w _ i.imlt i.gl j).mono ?_;rintro e w' ⟨c,h1,h2,u,rfl,h3⟩;obtain⟨h4,m⟩:=vK i h1 h2;exact hn u w' _ h4 m (Aa.mono (g:=⟨[],[],c⟩) (w:=w') (g':= ⟨g.bx,g.tk,c⟩) (w':= w') ⟨λ_ _ h=>⟨h,rfl⟩,λ_ _ h=>Wp,λ_ _ h=>Wp⟩ _ _ h3)⟩ k
def Pc{d:Tmp}{x:Operand}{i:Nat}{vs:List AV}{v:AV}(hx:ev? s x=some (.tup vs))(h:vs[i]? =some v)(k:AD P A G K C (.pure::I) ((d,v)::s) H):
    AD P A G K (⟨some d, .extract x i,R,D,S,none⟩::C) I s H:=
  bU rfl (eY λg w a f=>by obtain⟨us,e,c⟩:=op1 hx We f;obtain⟨u,b,hr⟩:=c.get h;rw[getElem?_toList]at b;exact⟨u,by simp[execOp,e,Instr.extract,b],hr⟩) k
def tA{d:Tmp}{fn:Fn}{first cap:Array Operand}{fs cs:List AV}(hf:jZ s first.toList some=some fs)(O:jZ s cap.toList some=some cs)(k:AD P A G K C (.pure::I) ((d, .fn fn fs cs)::s) H):
    AD P A G K (⟨some d, .makeFunc fn first cap,R,D,S,none⟩::C) I s H:=
  bU rfl (eY λg w a b=>by
    have c:first.toList.map (ev s)=fs:=Option.some.inj (gV _ _ _ hf);have e:cap.toList.map (ev s)=cs:=Option.some.inj (gV _ _ _ O);refine⟨.func fn (first.map a.eval) (cap.map a.eval),by simp[execOp,Instr.makeFunc],⟨_,_,rfl, ?_, ?_⟩⟩
    · rw[<-c,toList_map];exact jC _ λx hx=>b x (by simpa [Op.operands]using .inl WP)
    · rw[<-e,toList_map];exact jC _ λx hx=>b x (by simpa [Op.operands]using .inr WP)) k
theorem pV{x:Operand}(h:Ax P f){p:Array TypeId}(a:Act)(w:World)(first cap:Array Value)(hx:a.eval x = .func (.func f) first cap):
    (execOp a.eval ⟨d, .call ⟨.value x,args,p⟩,R,D,S,none⟩).run P w = .ok (.enter f (first++args.map a.eval++cap)) w:=by simp only[execOp,resolve,hx,Deferred.ofValue,Sem.run_bind,Sem.run_pure,Result.andThen,invoke];exact s9 h _ w
def Cg{x:Operand}{p:Array TypeId}{J b:List AV}{r:AV}(hx:ev? s x=some (.fn (.func f) [] []))(ha:jZ s args.toList some=some J)(hp:AN P f b r)(hw:AA J b)
    (k:AD P A G K C (.pure::I) (iG d r s) H):AD P A G K (⟨d, .call ⟨.value x,args,p⟩,R,D,S,none⟩::C) I s H:=
  bU (t := .pure) rfl ⟨rfl,λτ=>by
    intro g w a next Q i y hn;have hv:args.toList.map (ev s)=J:=Option.some.inj (gV _ _ _ ha);obtain⟨z,cs,o,l,m⟩:=op1 hx Wm y;have n:z = #[]:=by have:=l.length;simpa using this
    have j:cs = #[]:=by have:=m.length;simpa using this
    subst n;subst j;have v:=jC (g:=g) (w:=w) (s:=s) (a:=a) args.toList (λx hx=>y x Wq);rw[hv]at v;have q:AM ⟨[],[],g.im⟩ w b (#[]++args.map a.eval ++ #[]).toList:=by simp only[Array.empty_append,Array.append_empty,toList_map];exact jY (bx:=g.bx) (tk:=g.tk) _ _ hp.2.1 (hw _ _ _ v)
    unfold Oper.wp;rw[pV hp.1 a w #[] #[] o];refine(hp.2.2 g.im w _ i.imlt i.gl q).mono ?_;rintro e w' ⟨c,h1,h2,u,rfl,h3⟩;obtain⟨h4,h5⟩:=vK i h1 h2;exact hn u w' _ h4 h5 (Aa.mono (g:=⟨[],[],c⟩) (w:=w') (g':= ⟨g.bx,g.tk,c⟩) (w':= w') ⟨λ_ _ h=>⟨h,rfl⟩,λ_ _ h=>Wp,λ_ _ h=>Wp⟩ _ _ h3)⟩ k
def bnd?(s:AE)(o:Option Operand)(dflt:Int):Option Int:=
  match o with
  |none=>some dflt
  |some x=>match ev? s x with
    |some (.int _ n)=>some n
    |_=>none
def Fy{x:Operand}{a:Int}(h:bnd? s (some x) a=some n):∃k,ev? s x=some (.int k n):=by
  unfold bnd? at h;cases e:ev? s x with
  |none=>simp[e]at h
  |some v=>
    cases v with
    |int k m=>simp[e]at h;subst h;exact⟨k,rfl⟩
    |_=>simp[e]at h
def NO[Lay P]{d:Tmp}{x:Operand}{lo X:Option Operand}{tk:Tk}{nl:Int}(l h:Nat)(hT:ty? P T=some ti)(hk:ti.kind = .slice)(hE:ty? P ti.elem=some te)
    (hx:ev? s x=some (.slice xs tk)) (hl:bnd? s lo 0=some nl) (hh:bnd? s X xs.length=some nh) (el:nl=(l:Int)) (eh:nh=(h:Int)) (h1:l<=h) (h2:h<=xs.length) (hf:l=0\/eK te.agg te.size xs=true)
    (k:AD P A G K C (.pure::I) ((d, .slice ((xs.take h).drop l) .no)::s) H):AD P A G K (⟨some d, .slice T x lo X none,R,D,S,none⟩::C) I s H:=
  bU rfl (eY λg w a ho=>by
    obtain⟨p,cap,sz,Vs,e,c1,c2,c3,m,c5,c6⟩:=op1 hx We ho
    obtain⟨aj,dd,z0,t1,t2,t3,t4,_⟩:=(eH hT).ex
    have hd:∃e,dd = .slice e:=Wk
    obtain⟨a6,rfl⟩:=hd
    have a8:a6=ti.elem:=t4
    subst a8
    have ar:Vs.length=xs.length:=m.length
    have a0:(execOp a.eval ⟨some d, .slice T x lo X none,R,D,S,none⟩).run P w = .ok (.value (.slice (if cap=l then p else p.map (·.add (l * te.size))) (h-l) (cap-l))) w:=by
      have v:∀y,X=some y->(Instr.sliceBound (a.eval y) cap .sliceAcap).run P w = .ok h w:=by
        intro y o
        subst o
        obtain⟨ik,hy⟩:=Fy hh
        have r:a.eval y = .int ik nh:=op1 hy We ho
        have hb:0<=(h:Int)/\(h:Int)<=(cap:Int):=om
        simp only[Instr.sliceBound,r,asIntOf,eh,Sem.run_bind,Sem.run_pure,Result.andThen]
        rw[if_pos hb]
        simp
      have ab:∀y,lo=some y->(Instr.sliceBound (a.eval y) h .sliceB).run P w = .ok l w:=by
        intro y o
        subst o
        obtain⟨ik,hy⟩:=Fy hl
        have r:a.eval y = .int ik nl:=op1 hy We ho
        have hb:0<=(l:Int)/\(l:Int)<=(h:Int):=om
        simp only[Instr.sliceBound,r,asIntOf,el,Sem.run_bind,Sem.run_pure,Result.andThen]
        rw[if_pos hb]
        simp
      have h0:lo=none->l=0:=by
        intro e0
        subst e0
        have:(0:Int)=nl:=Option.some.inj hl
        omega
      have t:X=none->h=Vs.length:=by
        intro e0
        subst e0
        have:(xs.length:Int)=nh:=Option.some.inj hh
        omega
      cases lo with
      |none=>
        have aa:=h0 rfl
        subst aa
        cases X with
        |none=>
          have j:=t rfl
          subst j
          simp[execOp,e,Instr.sliceAt,run_underlying t2,Result.andThen,Instr.slice,Instr.sliceBounds,dA hE]
        |some y=>
          have:=v y rfl
          simp[execOp,e,Instr.sliceAt,run_underlying t2,Result.andThen,Instr.slice,Instr.sliceBounds,dA hE,this]
      |some z=>
        have hz:=ab z rfl
        cases X with
        |none=>
          have j:=t rfl
          subst j
          simp[execOp,e,Instr.sliceAt,run_underlying t2,Result.andThen,Instr.slice,Instr.sliceBounds,dA hE,hz]
        |some y=>
          have:=v y rfl
          simp[execOp,e,Instr.sliceAt,run_underlying t2,Result.andThen,Instr.slice,Instr.sliceBounds,dA hE,hz,this]
    refine⟨_,a0, ?_⟩
    have f:((Vs.take h).drop l).length=h-l:=Wl
    have n:l * te.size=l * sz\/(Vs.take h).drop l=[]:=by
      rcases hf with rfl|hf
      · left;simp
      · cases Vs with
        |nil=>right;simp
        |cons V Vs'=>
          left
          have hV:=(pB hf m V Wb).1
          cases p with
          |none=>have:=(c5 rfl).1;cases this
          |some q=>rw[<-((c6 q rfl).2 0 V rfl).1,hV]
    refine⟨_,cap-l,sz,(Vs.take h).drop l,by rw[f],by rw[f];omega,om,trivial,(m.take h).drop l, ?_, ?_⟩
    · intro hn
      have hp:p=none:=by
        cases p with
        |none=>rfl
        |some q=>by_cases c:cap=l<;>simp[c]at hn
      have a7:=(c5 hp).1
      have ap:=(c5 hp).2
      subst a7
      exact⟨Wb,om⟩
    · intro q c
      cases p with
      |none=>simp at c
      |some q0=>
        obtain⟨m1,m2⟩:=c6 q0 rfl
        by_cases u:cap=l
        · rw[if_pos u]at c
          cases c
          have b:(Vs.take h).drop l=[]:=by apply eq_nil_of_length_eq_zero;rw[f];omega
          rw[b]
          exact⟨.inr rfl,λi V X=>XX⟩
        · rw[if_neg u]at c
          simp only[Option.map_some,Option.some.injEq]at c
          rcases n with n|b
          · rw[n]at c
            rcases m1 with m1|m1
            · obtain⟨qb,qo,qs⟩:=q0
              cases (show qs=none from m1)
              rw[eI]at c
              subst c
              refine⟨.inl rfl,λi V X=> ?_⟩
              rw[getElem?_drop]at X
              have a9:Vs[l+i]? =some V:=by
                rw[List.getElem?_take]at X
                split at X
                · exact X
                · cases X
              obtain⟨n1,n2⟩:=m2 (l+i) V a9
              refine⟨n1, ?_⟩
              have:qo+(l+i) * sz=qo+l * sz+i * sz:=Zw
              rw[<-this]
              exact n2
            · subst m1
              exact⟨.inr Wb,λi V X=>XX⟩
          · rw[b]
            exact⟨.inr rfl,λi V X=>XX⟩) k
end rules
theorem AC.eq(h:x=y):AC x y:=h▸aG x
theorem aP{t:Nat}{s:AE}{v r:AV}(h:lk? s t=some v)(hw:AC v r):∃a,Av.ret (gG s [t]) = .ret a/\AC a r:=
  ⟨_,rfl,by rw[show gG s [t]=v from gY h];exact hw⟩
def res?(P:Program)[Lay P](s:AE)(H:St):ResultVar->Option AV
  | .tmp t=>some (lk s t)
  | .cell t T=>match lk? s t,ty? P T with
    |some (.ptr i off),some ti=>match H.B[i]? with
      |some (.cells cs)=>cut ti.agg ti.size off cs
      |_=>none
    |_,_=>none
def resK?(P:Program)[Lay P](s:AE)(H:St):List ResultVar->(List AV->Option AV)->Option AV
  |[],k=>k []
  |r::rs,k=>match res? P s H r with
    |some v=>resK? P s H rs λl=>k (v::l)
    |none=>none
def nI:List AV->Option AV
  |[v]=>some v
  |vs=>some (.tup vs)
def QG(vs:List Value):Value:=match vs with
  |[v]=>v
  |vs => .tuple vs.toArray
section
variable {P:Program} [Lay P]
def Kd(tmps:Array Value):ResultVar->Sem Value
  | .tmp t=>pure (tmps.getD t undef)
  | .cell a t=>do loadVar t (<-asAddr (tmps.getD a undef))
def QH{g:Gh}{w:World}{s:AE}{H:St}(X:Inv g H w)(hs:A3 g w s a){r:ResultVar}{v:AV}(h:res? P s H r=some v):
    ∃V,Aa g w v V/\(Kd a r).run P w = .ok V w:=by
  cases r with
  |tmp t=>cases (Option.some.inj h);exact⟨_,hs t,rfl⟩
  |cell t T=>
    simp only[res?]at h;split at h;case h_2=>cases h
    case h_1 i off ti e1 e2=>
    split at h;case h_2=>cases h
    case h_1 cs e3=>
    have d:=hs t;rw[gY e1]at d;obtain⟨b,hb,e⟩:=d;obtain⟨V,f,c⟩:=Ku e2 X hb e3 h;refine⟨V,f, ?_⟩;simp only[Kd,e,asAddr,Sem.run_bind,Sem.run_pure,Result.andThen];exact c
def xL{g:Gh}{w:World}{s:AE}{H:St}{a:Array Value}(X:Inv g H w)(hs:A3 g w s a):∀(b:List ResultVar) (k:List AV->Option AV) (v:AV),resK? P s H b k=some v->
    ∃(vs:List AV) (Vs:List Value),k vs=some v/\AM g w vs Vs/\(b.mapM (Kd a)).run P w = .ok Vs w
  |[],k,v,h=>⟨[],[],h,rfl,rfl⟩
  |r::b,k,v,h=>by
    unfold resK? at h;split at h;case h_2=>cases h
    case h_1 x e=>
    obtain⟨V,c,d⟩:=QH X hs e;obtain⟨vs,Vs,h3,h4,f⟩:=xL X hs b _ v h;refine⟨x::vs,V::Vs,h3,⟨V,Vs,rfl,c,h4⟩, ?_⟩;simp_all
omit [Lay P] in
def tB{fn:Func}{d:List ResultVar}{c:Array Value}{w:World}(h:fn.results=d.toArray)(hr:(d.mapM (Kd c)).run P w = .ok Vs w):(results fn c).run P w = .ok (QG Vs) w:=by
  have e:results fn c=(fn.results.mapM (Kd c) >>= λvs=>pure (if h:vs.size=1 then vs[0] else .tuple vs)):=rfl;rw[e,h,List.mapM_toArray];simp only[Sem.run_bind,map_eq_pure_bind,hr,Result.andThen,Sem.run_pure];unfold QG;match Vs with
  |[]=>simp
  |[v]=>simp
  |a::b::l=>simp
def QI(P:Program)[Lay P](rs:List ResultVar)(o:Av->St->Prop):AX->AE->St->Prop
  | .normal=>λs H=>∃v,resK? P s H rs nI=some v/\o (.ret v) H
  | .ret=>λs H=>∃v,resK? P s H rs nI=some v/\o (.ret v) H
  | .pan x=>λ_ H=>o (.pan x) H
  |_=>λ_ _=>False
def vP{g:Gh}{w:World}{vs:List AV}{v:AV}(h:nI vs=some v)(c:AM g w vs Vs):Aa g w v (QG Vs):=by
  match vs,c,h with
  |[],c,h=>cases h;rw[show Vs=[] from c];exact⟨#[],rfl,rfl⟩
  |[x],⟨u,r,e,a,b⟩,h=>cases h;subst e;rw[show r=[] from b];exact a
  |x::y::l,⟨u,r,e,a,⟨f,r', d,b,h3⟩⟩,h=>cases h;subst d;subst e;exact⟨_,rfl,⟨u,_,rfl,a,⟨f,r', rfl,b,h3⟩⟩⟩
def Dv{fn:Func}{c:Code}{args:List AV}{H:St}{o:Av->St->Prop}(m:List ResultVar){N:Nat}(hf:P.funcs[f]? =some fn)(hb:fn.body=some c)(hN:fn.ntmps=N)
    (i:(fn.name == "runtime.NumGoroutine")=false) (d:Nat.ble args.length N=true) (b:fn.results=m.toArray)
    (h:AB P N [] c (QI P m o) (cD 0 args) H):AI P f args H o:=by
  refine⟨⟨fn,hf,i,YF⟩,λg w J X y=> ?_⟩;have k:args.length<=N:=Nat.le_of_ble_eq_true d;have z:J.size=args.length:=by simpa using y.length
  refine calls_of_wp hf hb (wp_mono (h g w _ X (λt=> ?_) ?_ rfl) ?_)
  · rw[kL]
    cases e:args[t]? with
    |none=>trivial
    |some v=>
      obtain⟨u,j,h2⟩:=y.get e;have:(J++Array.replicate (fn.ntmps-J.size) undef).getD t undef=u:=by rw[getElem?_toList]at j;have a2:=(Array.getElem?_eq_some_iff.1 j).1;simp only[Array.getD_eq_getD_getElem?];grind
      simp_all
  · simp;omega
  · rintro e a w' ⟨ae,s', Y,g', j,h2,h3,h4,h5,h6,h7⟩
    cases ae with
    |normal=>cases (show e = .normal from j);obtain⟨v,e1,n⟩:=h7;obtain⟨vs,Vs,p,q,r⟩:=xL h5 h6 m _ v e1;exact⟨h3,_,tB b r,g', Y, .ret _,h4,h5,⟨_,rfl,vP p q⟩,n⟩
    |ret=>cases (show e = .ret from j);obtain⟨v,e1,n⟩:=h7;obtain⟨vs,Vs,p,q,r⟩:=xL h5 h6 m _ v e1;exact⟨h3,_,tB b r,g', Y, .ret _,h4,h5,⟨_,rfl,vP p q⟩,n⟩
    |exit id=>exact h7.elim
    |goto l=>exact h7.elim
    |pan x=>obtain⟨u,rfl,hu⟩:=j;exact⟨h3,g', Y, .pan x,h4,h5,⟨u,rfl,hu⟩,h7⟩
end
def aI{P:Program}[Lay P]{a:List ResultVar}{s:AE}{H:St}{v r:AV}(h:resK? P s H a nI=some v)(hw:AC v r):∃c,resK? P s H a nI=some c/\∃b,Av.ret c = .ret b/\AC b r:=WZ
section rules
variable {P:Program} [Lay P] {A:Array Oper} {G:Bool} {K:AX->AE->St->Prop} {C:List Oper} {I:List Aj} {s:AE} {H:St}
variable {d:Tmp} {R:TypeId} {D:String} {S:Array Edge}
def Tt{x y:Operand}{kl kc:IntKind}{m:Int}{n k:Nat}{c f:TI}(hT:ty? P T=some c)(hk:c.kind = .slice)(hE:ty? P c.elem=some f)
    (hx:ev? s x=some (.int kl 0)) (hy:ev? s y=some (.int kc m)) (hm:m=(n:Int)) (hb:f.bytes * n<=281474976710656) (hb': n<=9223372036854775807) (a0:dN H.T=some k) (q:kP H.T (.len 0) some=some T')
    (kk:AD P A G K C (.tk::I) ((d, .slice [] (.own k f.size))::s) ⟨H.B,T'⟩):AD P A G K (⟨some d, .makeSlice T x y,R,D,S,none⟩::C) I s H:=
  bU (t := .tk) (Y:=⟨H.B,T'⟩) rfl ⟨rfl,λB=>by
    intro g w a next Q hI ho a2
    have h1:a.eval x = .int kl 0:=op1 hx We ho
    have h2:a.eval y = .int kc m:=op1 hy We ho
    obtain⟨a9,dd,z0,t1,t2,t3,t4,_⟩:=(eH hT).ex
    have hd:∃e,dd = .slice e:=Wk
    obtain⟨el,rfl⟩:=hd
    have v:el=c.elem:=t4
    subst v
    obtain⟨l,de,o,u1,u2,u3,u4,u5,u6,u7,u8,u9,an,ao,ap,aq⟩:=(eH hE).ex
    have a1:H.T.length=k:=dI a0
    have u:H.T++[Tok.len 0]=T':= Option.some.inj (eQ _ _ _ _ q)
    subst hm
    have j:=run_make (P:=P) w T c.elem l o t2 u1 u8 kl kc 0 (n:Int) (Int.le_refl _) om (by rw[u7, <-Int.natCast_mul];omega) om
    have ai:((n:Int)).toNat=n:=Wb
    have a3:n * f.size=(madeCells o.cells (n * l.size)).size:=by rw[u6];simp[madeCells]
    have z:g.tk.length=H.T.length:=hI.lenT
    obtain⟨g', e1,e2,e3,e4⟩:=J7 (H:=⟨B,H.T⟩) hI (madeCells o.cells (n * l.size)) c.elem (k:=H.T.length) (n:=0) (sz:=f.size) (cap:=n) a3 (zero_le _) (old:=none) (by rw[<-z];simp) om (λr h=>W0) (T':= T')
      (.inr ⟨rfl,u.symm⟩)
    unfold Oper.wp
    have b:(execOp a.eval ⟨some d, .makeSlice T x y,R,D,S,none⟩).run P w = .ok (.value (.slice (some ⟨w.heap.size,0,none⟩) 0 n)) (dO w (.cells (madeCells o.cells (n * l.size)) c.elem)):=by
      simp only[execOp,h1,h2,Sem.run_bind,j,Result.andThen,Sem.run_pure]
      rfl
    rw[b]
    refine a2 _ _ g' e2 e3 ⟨some ⟨w.heap.size,0,none⟩,n,f.size,[],rfl,zero_le _, ?_, ?_,rfl,(λh=>W0),λp hp=>⟨.inr rfl,λi V X=>XX⟩⟩
    · unfold maxLen;omega
    · rw[<-a1]
      exact⟨.inr rfl,_,e1.get,rfl,zero_le _,λ_=>⟨rfl,rfl, .inr λp hp=>by cases hp;rfl⟩⟩⟩ kk
end rules
theorem AA.eq(h:xs=ys):AA xs ys:=h▸aB xs
section rules
variable {P:Program} [Lay P] {A:Array Oper} {G:Bool} {K:AX->AE->St->Prop} {C:List Oper} {I:List Aj} {s:AE} {H:St}
variable {d:Tmp} {R:TypeId} {D:String} {S:Array Edge}
end rules
def Tu{P:Program}{N:Nat}{D:List Deferred}{c:Code}{K:AX->AE->St->Prop}{s:AE}{H:St}(b:Nat)(hx:lk? s b=some x)(hw:AC x y)(h:AB P N D c K ((b,y)::s) H):AB P N D c K s H:=λg w a X hs ha f=>
  h g w a X (λu=>by
    unfold lk;cases e:Nat.beq b u with
    |true=>have:=eq_of_beq_eq_true e;subst this;have d:=hs b;rw[gY hx]at d;exact hw _ _ _ d
    |false=>exact hs u) ha f
theorem rQ{α:Type}:∀ {l:List α} {j:Nat} {u:α},l[j]? =some u->l.set j u=l
  |x::l,0,u,h=>by simp at h;subst h;rfl
  |x::l,j+1,u,h=>by have:=rQ (l:=l) (j:=j) (u:=u) Wu;simp[this]
  |[],_,_,h=>Wp
def lC{P:Program}{N:Nat}{D:List Deferred}{c:Code}{K:AX->AE->St->Prop}{s:AE}{H:St}(i j:Nat)(agg:Bool)(z:Nat){cs:List AV}{xs:List AV}{k n:Nat}{B': List Ob}(o:H.B[i]? =some (.cells cs))(hx:cs[j]? =some (.slice xs t))
    (ht:t.fresh=true) (hf:eK agg z xs=true) (hk:dN H.T=some k) (hn:xs.length=n) (q:kP H.T (.len n) some=some T') (p:H.B.set i (.cells (cs.set j (.slice xs (.own k z))))=B') (h:AB P N D c K s ⟨B', T'⟩):AB P N D c K s H:=λg w a X hs ha hd=>by
  have x:i<g.bx.length:=by rw[X.lenB];exact(List.getElem?_eq_some_iff.1 o).1
  have hb:g.bx[i]? =some g.bx[i]:=List.getElem?_eq_getElem x;obtain⟨J,R,q1,q2,q3⟩:=X.ob i _ _ hb o;obtain⟨u,hu,hr⟩:=q2.get hx;obtain⟨g1,e1,b,e3⟩:=rI ht hf X hr;have v:H.T.length=k:=dI hk;have r:H.T++[Tok.len n]=T':= Option.some.inj (eQ _ _ _ _ q);rw[hn,r]at b;rw[v]at e3;have hI:Inv g1 ⟨B', T'⟩ w:=by
    refine⟨by rw[b.lenB, <-p];simp,b.lenT,λi' b' f l h2=> ?_,b.nodup,b.noim,b.tok,b.tkz,b.tkd,b.imlt,b.gl⟩;by_cases e:i=i'
    · subst e;have d:=e1.le.bx _ _ hb;rw[d]at l;cases l;have m:f = .cells (cs.set j (.slice xs (.own k z))):=by grind
      subst m;obtain⟨y,ac,p1,p2,p3⟩:=b.ob i _ _ d o;rw[q1]at p1;cases p1;refine⟨J,R,q1, ?_,q3⟩;have:=AM.set j p2 e3;rwa [rQ hu]at this
    · refine b.ob i' b' f l ?_;grind
  exact wp_mono (h g1 w a hI (λu=>Aa.mono e1.le _ _ (hs u)) ha hd) λ_ _ _ hp=>hp.trans e1
def Mh(k:B6)(x y:AV):Option Bool:=
  match k,x,y with
  | .bool, .bool a, .bool b=>some (a==b)
  | .int _, .int k a, .int k' b=>if k=k' then some (a==b) else none
  | .string, .str a, .str b=>some (a==b)
  |_,_,_=>none
def Jb(P:Program)[Lay P]:List Field->Nat->List AV->List AV->Option Bool
  |[],_,[],[]=>some true
  |f::fs,i,x::xs,y::ys=>match Nat.beq f.offset i,ty? P f.type with
    |true,some ti=>match ti.agg,Mh ti.kind x y,Jb P fs (i+1) xs ys with
      |false,some b,some r=>some (b&&r)
      |_,_,_=>none
    |_,_=>none
  |_,_,_,_=>none
structure CR(P:Program)(T:TypeId)(fs:List Field):Prop where
  u:P.underlying T=some (.struct fs.toArray)
  held:P.stoodInHeld T=false
  plain:P.eqGuardType P.depth T=false
  named:(fs.all λf=>f.name != "_")=true
section
variable {P:Program} [Lay P]
omit [Lay P] in
def vQ{g:Gh}{w:World}{k:B6}{t:TypeId}{a:TypeDesc}(f:P.underlying t=some a)(hk:tD a=k)(h:Mh k x y=some b)(hx:Aa g w x u)(i:Aa g w y v)(n:Nat):
    (Op.equalIn (n+1) t u v).run P w = .ok b w:=by
  unfold Mh at h;split at h
  · cases (show u=_ from hx);cases (show v=_ from i);cases h;cases a<;>first|(cases hk;done)|simp[Op.equalIn,run_underlying f,Result.andThen]
  · cases (show u=_ from hx);cases (show v=_ from i);split at h;case isFalse=>cases h
    case isTrue e=>
    subst e;cases h;cases a<;>first|(cases hk;done)|simp[Op.equalIn,run_underlying f,Result.andThen]
  · cases (show u=_ from hx);cases (show v=_ from i);cases h;cases a<;>first|(cases hk;done)|skip
    rename_i c d;have e:((⟨c.toArray⟩:ByteArray)==⟨d.toArray⟩)=(c==d):=by show (c.toArray==d.toArray)=(c==d);rw[Bool.eq_iff_iff,beq_iff_eq,beq_iff_eq];simp
    simp[Op.equalIn,run_underlying f,Result.andThen,e]
  · cases h
theorem Ke{t:TypeId}{b:TI}(h:ty? P t=some b)(ha:b.agg=false){cs:Array Value}{a:Nat}{v:Value}(c:cs[a]? =some v)(w:World):(part t cs a).run P w = .ok v w:=by unfold part;simp only[Sem.run_bind,FR h,Result.andThen,ha,Bool.false_eq_true,if_false,c,Sem.run_pure]
def HQ{g:Gh}{w:World}{us vs:Array Value}(n:Nat):∀(d:List Field) (i:Nat) (xs ys:List AV) (b:Bool),(d.all λf=>f.name != "_")=true->Jb P d i xs ys=some b->AM g w xs (us.toList.drop i)->AM g w ys (vs.toList.drop i)->
    ((forIn d ((none:Option Bool),()) λf __s=>
                if f.name ≠ "_" then do
                  let a<-part f.type us f.offset;let c<-part f.type vs f.offset;let e<-Op.equalIn (n+1) f.type a c;if (!e)=true then pure (ForInStep.done (some false,()))
                    else pure (ForInStep.yield (none,()))
                else pure (ForInStep.yield (none,()))):Sem (Option Bool×Unit)).run P w = .ok (if b then none else some false,()) w
  |[],i,[],[],b,_,h,_,_=>by cases h;simp
  |f::d,i,x::xs,y::ys,b,hn,h,hx,hy=>by
    simp only[List.all_cons,Bool.and_eq_true]at hn;unfold Jb at h;split at h;case h_2=>cases h
    case h_1 ti e1 e2=>
    split at h;case h_2=>cases h
    case h_1 b1 r ea e3 e4=>
    have ho:=eq_of_beq_eq_true e1;obtain⟨u,ur,j,m,o⟩:=hx;obtain⟨v,vr,k,p,q⟩:=hy;have gu:us[f.offset]? =some u:=by
      have:(us.toList.drop i)[0]? =some u:=by rw[j];rfl
      grind
    have gv:vs[f.offset]? =some v:=by
      have:(vs.toList.drop i)[0]? =some v:=Wf
      grind
    obtain⟨t,dd,z0,t1,t2,t3,t4,_⟩:=(eH e2).ex;have h1:=vQ t2 t3 e3 m p n;have l:f.name ≠ "_" :=by simpa using hn.1
    have z:us.toList.drop (i+1)=ur:=by rw[<-drop_drop,j];rfl
    have d2:vs.toList.drop (i+1)=vr:=by rw[<-drop_drop,k];rfl
    have E:=HQ n d (i+1) xs ys r hn.2 e4 (by rw[z];exact o) (by rw[d2];exact q);cases h;rw[List.forIn_cons];simp only[if_pos l,Sem.run_bind,Ke e2 ea gu,Ke e2 ea gv,h1,Result.andThen];cases b1 with
    |true=>simp_all
    |false=>simp
  |[],_,_::_,_,_,_,h,_,_=>by cases h
  |[],_,[],_::_,_,_,h,_,_=>by cases h
  |_::_,_,[],_,_,_,h,_,_=>by cases h
  |_::_,_,_::_,[],_,_,h,_,_=>W0
def HR{a:List Field}(hT:CR P T a){g:Gh}{w:World}(h:Jb P a 0 xs ys=some b)(hx:Aa g w (.agg xs) u)(e:Aa g w (.agg ys) v):(Op.equal T u v).run P w = .ok b w:=by obtain⟨us,rfl,c,_⟩:=hx;obtain⟨vs,rfl,d,_⟩:=e;have h3:=HQ (us:=us) (vs:=vs) 9998 a 0 xs ys b hT.named h WA (by simpa using d);unfold Op.equal Op.maxDepth;rw[Op.equalIn];simp only[Sem.run_bind,run_underlying hT.u,Result.andThen,run_program,hT.held,Bool.false_eq_true,if_false,List.forIn_toArray];rw[h3];cases b<;>simp
section rules
variable {A:Array Oper} {G:Bool} {K:AX->AE->St->Prop} {C:List Oper} {I:List Aj} {s:AE} {H:St}
variable {d:Tmp} {R:TypeId} {D:String} {S:Array Edge}
omit [Lay P] in
theorem HS{b:List Field}(hT:CR P T b){a:BinOp}{x y:Operand}{us vs:Array Value}(w:World):(eqGuard a T x y (.agg us) (.agg vs)).run P w = .ok () w:=by cases a<;>simp[eqGuard,hT.plain]
def Vd{x y:Operand}(hT:CR P T e)(hx:ev? s x=some (.agg xs))(l:ev? s y=some (.agg ys))(h:Jb P e 0 xs ys=some b)(k:AD P A G K C (.pure::I) ((d, .bool b)::s) H):
    AD P A G K (⟨some d, .binOp .eql T x y U,R,D,S,none⟩::C) I s H:=
  bU rfl (eY λg w a j=>by have f:=op1 hx We j;have i:=op1 l We j;have h3:=HR hT h f i;obtain⟨us,e1,_⟩:=f;obtain⟨vs,c,_⟩:=i;rw[e1,c]at h3;exact⟨.bool b,YJ,rfl⟩) k
def aBk{x y:Operand}(hT:CR P T e)(hx:ev? s x=some (.agg xs))(l:ev? s y=some (.agg ys))(h:Jb P e 0 xs ys=some b)(k:AD P A G K C (.pure::I) ((d, .bool (!b))::s) H):
    AD P A G K (⟨some d, .binOp .neq T x y U,R,D,S,none⟩::C) I s H:=
  bU rfl (eY λg w a j=>by have f:=op1 hx We j;have i:=op1 l We j;have h3:=HR hT h f i;obtain⟨us,e1,_⟩:=f;obtain⟨vs,c,_⟩:=i;rw[e1,c]at h3;exact⟨.bool (!b),YJ,rfl⟩) k
def aBl{x y:Operand}{m n:Bool}{f:TI}(hT:ty? P T=some f)(hk:f.kind = .bool)(hx:ev? s x=some (.bool m))(j:ev? s y=some (.bool n))(k:AD P A G K C (.pure::I) ((d, .bool (m==n))::s) H):
    AD P A G K (⟨some d, .binOp .eql T x y U,R,D,S,none⟩::C) I s H:=
  bU rfl (eY λg w a b=>by have h:a.eval x = .bool m:=op1 hx We b;have i:a.eval y = .bool n:=op1 j We b;obtain⟨c,l,z,t1,t2,e,_⟩:=(eH hT).ex;rw[hk]at e;have h3:(Op.equal T (.bool m) (.bool n)).run P w = .ok (m==n) w:=vQ (g:=⟨[],[],λ_ _=>False⟩) (x := .bool m) (y := .bool n) t2 e rfl rfl rfl 9999;exact⟨.bool (m==n),by simp[execOp,h,i,eqGuard,Go.binOp,h3,Result.andThen],rfl⟩) k
def aBm{x y:Operand}{m n:Bool}{f:TI}(hT:ty? P T=some f)(hk:f.kind = .bool)(hx:ev? s x=some (.bool m))(j:ev? s y=some (.bool n))(k:AD P A G K C (.pure::I) ((d, .bool (m != n))::s) H):
    AD P A G K (⟨some d, .binOp .neq T x y U,R,D,S,none⟩::C) I s H:=
  bU rfl (eY λg w a b=>by have h:a.eval x = .bool m:=op1 hx We b;have i:a.eval y = .bool n:=op1 j We b;obtain⟨c,l,z,t1,t2,e,_⟩:=(eH hT).ex;rw[hk]at e;have h3:(Op.equal T (.bool m) (.bool n)).run P w = .ok (m==n) w:=vQ (g:=⟨[],[],λ_ _=>False⟩) (x := .bool m) (y := .bool n) t2 e rfl rfl rfl 9999;exact⟨.bool (m != n),by simp[execOp,h,i,eqGuard,Go.binOp,h3,Result.andThen,bne],rfl⟩) k
end rules
end
section rules
variable {P:Program} [Lay P] {A:Array Oper} {G:Bool} {K:AX->AE->St->Prop} {C:List Oper} {I:List Aj} {s:AE} {H:St}
variable {d:Tmp} {R:TypeId} {D:String} {S:Array Edge}
omit [Lay P] in
def cW{x:Operand}{v:AV}(hx:ev? s x=some v)(O:kO v (λ_=>some ())=some ())
    (k:AD P A G K C (.pure::I) ((d, .ac v)::s) H):AD P A G K (⟨some d, .box T x,R,D,S,none⟩::C) I s H:=
  bU (t := .pure) rfl ⟨rfl,λτ=>by
    intro g w a next Q e f hn;have b:=op1 hx We f;obtain⟨cs,_,h3,h4⟩:=jL O b;obtain⟨c,h⟩:=FQ e (a.eval x).cells T (a.eval x).cells.size (Nat.le_refl _);unfold Oper.wp;refine hn _ _ _ c h ⟨w.heap.size,0,a.eval x,rfl,λj u hj=>⟨.inr ⟨rfl, ?_⟩, ?_,h4 u ?_⟩,Aa.mono c.le _ _ b⟩
    · grind
    · simp_all
    · exact mem_of_getElem? (by rw[getElem?_toList];exact hj)⟩ k
omit [Lay P] in
def Jc{d:Option Tmp}{x:Operand}{p:Array TypeId}{o cs J b:List AV}{r:AV}(hx:ev? s x=some (.fn (.func f) o cs))(ha:jZ s args.toList some=some J)(hp:AN P f b r)(hw:AA (o++J++cs) b)
    (k:AD P A G K C (.pure::I) (iG d r s) H):AD P A G K (⟨d, .call ⟨.value x,args,p⟩,R,D,S,none⟩::C) I s H:=
  bU (t := .pure) rfl ⟨rfl,λτ=>by
    intro g w a next Q i v hn;have z:args.toList.map (ev s)=J:=Option.some.inj (gV _ _ _ ha);obtain⟨vs,us,m,j,l⟩:=op1 hx Wm v;have q:=jC (g:=g) (w:=w) (s:=s) (a:=a) args.toList (λx hx=>v x Wq);rw[z]at q;have n:AM ⟨[],[],g.im⟩ w b (vs++args.map a.eval++us).toList:=by simp only[Array.toList_append,toList_map];exact jY (bx:=g.bx) (tk:=g.tk) _ _ hp.2.1 (hw _ _ _ ((j.append q).append l))
    unfold Oper.wp;rw[pV hp.1 a w vs us m];refine(hp.2.2 g.im w _ i.imlt i.gl n).mono ?_;rintro e w' ⟨c,h1,h2,u,rfl,h3⟩;obtain⟨h4,y⟩:=vK i h1 h2;exact hn u w' _ h4 y (Aa.mono (g:=⟨[],[],c⟩) (w:=w') (g':= ⟨g.bx,g.tk,c⟩) (w':= w') ⟨λ_ _ h=>⟨h,rfl⟩,λ_ _ h=>Wp,λ_ _ h=>Wp⟩ _ _ h3)⟩ k
omit [Lay P] in
def Fz{a:TypeId}(h:P.underlying T=some (.slice a))(p:Option Addr)(m c n:Nat)(w:World):(Op.equalIn (n+1) T (.slice p m c) (.slice none 0 0)).run P w = .ok p.isNone w:=by cases p<;>simp[Op.equalIn,run_underlying h,Result.andThen]
def Jd{x:Operand}{h:TI}(hT:ty? P T=some h)(hk:h.kind = .slice)(hx:ev? s x=some (.slice xs .nil))
    (k:AD P A G K C (.pure::I) ((d, .bool true)::s) H):AD P A G K (⟨some d, .binOp .eql T x (.const (.slice none 0 0)) U,R,D,S,none⟩::C) I s H:=
  bU rfl (eY λg w a n=>by
    obtain⟨p,cap,sz,Vs,e,o,q,⟨i,r⟩,_⟩:=op1 hx We n;obtain⟨c,b,z0,t1,t2,f,t,_⟩:=(eH hT).ex;have m:∃e,b = .slice e:=WM
    obtain⟨l,rfl⟩:=m;subst i;have h3:(Op.equal T (.slice none Vs.length cap) (.slice none 0 0)).run P w = .ok true w:=Fz t2 none Vs.length cap 9999 w;have j:a.eval (.const (.slice none 0 0)) = .slice none 0 0:=rfl;exact⟨.bool true,YG,rfl⟩) k
def FA{x:Operand}{h:TI}(hT:ty? P T=some h)(hk:h.kind = .slice)(hx:ev? s x=some (.slice xs .nn))
    (k:AD P A G K C (.pure::I) ((d, .bool false)::s) H):AD P A G K (⟨some d, .binOp .eql T x (.const (.slice none 0 0)) U,R,D,S,none⟩::C) I s H:=
  bU rfl (eY λg w a n=>by
    obtain⟨p,cap,sz,Vs,e,r,t,i,_⟩:=op1 hx We n;obtain⟨c,b,z0,t1,t2,f,u,_⟩:=(eH hT).ex;have m:∃e,b = .slice e:=WM
    obtain⟨l,rfl⟩:=m;obtain⟨q,o⟩:∃q,p=some q:=by cases p with|none=>exact absurd rfl i|some q=>exact⟨q,rfl⟩
    subst o;have h3:(Op.equal T (.slice (some q) Vs.length cap) (.slice none 0 0)).run P w = .ok false w:=Fz t2 (some q) Vs.length cap 9999 w;have j:a.eval (.const (.slice none 0 0)) = .slice none 0 0:=rfl;exact⟨.bool false,YG,rfl⟩) k
end rules
def tC{P:Program}{N:Nat}{D:List Deferred}{c:Code}{K:AX->AE->St->Prop}{s:AE}{H:St}(b:Nat)(hx:lk? s b=some (.slice xs t))
    (o:xs=[]->AB P N D c K ((b, .slice xs .nil)::s) H) (h0:AB P N D c K ((b, .slice xs .nn)::s) H):AB P N D c K s H:=λg w a X hs ha n=>by
  have hr:=hs b;rw[gY hx]at hr;have d:∀y,Aa g w y (a.tmps.getD b undef)->A3 g w ((b,y)::s) a.tmps:=λy r u=>by
    unfold lk;cases e:Nat.beq b u with
    |true=>have:=eq_of_beq_eq_true e;subst this;exact r
    |false=>exact hs u
  obtain⟨p,cap,sz,Vs,e,k,l,v,f,i,m⟩:=hr;cases p with
  |none=>obtain⟨rfl,rfl⟩:=i rfl;have j:xs=[]:=eq_nil_of_length_eq_zero f.length.symm;exact o j g w a X (d _ ⟨none,0,sz,[],e,k,l,⟨rfl,rfl⟩,f,i,m⟩) ha n
  |some q=>exact h0 g w a X (d _ ⟨some q,cap,sz,Vs,e,k,l,(λh=>W0),f,i,m⟩) ha n
section
variable {g:Gh} {H:St} {w:World}
def Ks(X:Inv g H w){r': A8}{t': Tok}{J:Nat->Nat->Prop}
    (hT:(k<H.T.length/\T'= H.T.set k t')\/(k=H.T.length/\T'= H.T++[t']))
    (x:w.heap.size<=w'.heap.size) (ad:w'.os=w.os) (a2:w'.tape=w.tape) (a8:w'.output=w.output)
    (a0:∀b,b<w.heap.size->(∀r,g.tk[k]? =some r->∀o,¬r.a1 b o)->w'.heap[b]? =w.heap[b]?)
    (d:∀b o,b<w.heap.size->(∀r,g.tk[k]? =some r->¬r.a1 b o)->w'.cell? ⟨b,o,none⟩=w.cell? ⟨b,o,none⟩)
    (p:∀b o,b<w.heap.size->w'.frozen? ⟨b,o,none⟩=w.frozen? ⟨b,o,none⟩)
    (hJ:∀b o,J b o->¬r'.a1 b o/\b<w'.heap.size/\(w.heap.size<=b\/∃r,g.tk[k]? =some r/\r.a1 b o))
    (hz:∀b o,r'.a1 b o->(∃v,w'.cell? ⟨b,o,none⟩=some v)/\w'.frozen? ⟨b,o,none⟩=false/\(w.heap.size<=b\/∃r,g.tk[k]? =some r/\r.a1 b o))
    (af:∀r,g.tk[k]? =some r->r'= r\/(r.n<r'.n/\r'.sz=r.sz))
    (a9:∀g', Le g w g' w'-> A6 g' w' r' t'):
    ∃g', Ar g w g' w'/\ Inv g' ⟨H.B,T'⟩ w'/\ g'.tk[k]? =some r'/\ (∀b o,J b o->g'.im b o):=by
  let a4:Nat->Nat->Prop:=λb o=>g.im b o\/J b o
  let m:List A8:=if k<g.tk.length then g.tk.set k r' else g.tk++[r']
  have a7:=X.lenT;have c:BX g w k r' ⟨g.bx,m,a4⟩ w':= by refine⟨rfl, ?_⟩;grind
  have a6:∀b o,g.im b o->∀r,g.tk[k]? =some r->¬r.a1 b o:=λb o h r hr f=>(X.tkz k r hr b o f).1 h
  have q:Le g w ⟨g.bx,m,a4⟩ w':= by refine⟨λb o h=>⟨.inl h,d b o (X.imlt b o h) (a6 b o h)⟩,λ_ _ h=>h,λj r hj=> ?_⟩;grind
  refine⟨⟨g.bx,m,a4⟩, ?_, ?_,c.get,λb o h => .inr h⟩
  · refine⟨q,x,ad,a2,a8,λb hb hn a3=>a0 b hb λr hr o=>a3 k r hr o,λb o hb hn a3=>⟨d b o hb λr hr=>a3 k r hr,p b o hb⟩,λb o h=> ?_,λb hb => .inl hb,λj r hj b o f=> ?_⟩
    · grind
    · grind
  · refine⟨X.lenB, ?_,λi b ob l h2=>(X.ob i b ob l h2).mono q (a0 b (X.be (mem_of_getElem? l)) λr hr o f=>(X.tkz k r hr b o f).2.1 (mem_of_getElem? l)),X.nodup,λb hb o h=> ?_,λj t r hj ht=> ?_,λj r hj b o f=> ?_,λj j' r r2 y hj a1 b o f z=> ?_,λb o h=> ?_,X.gl.le q⟩
    · show m.length=T'.length
      rcases hT with⟨l,rfl⟩|⟨l,rfl⟩
      · rw[show m=g.tk.set k r' from if_pos om];simp[a7]
      · rw[show m=g.tk++[r'] from if_neg om];simp[a7]
    · rcases h with h|h
      · exact X.noim b hb o h
      · rcases (hJ b o h).2.2 with h|⟨r,hr,hzr⟩
        · have:=X.be hb;omega
        · exact(X.tkz k r hr b o hzr).2.1 hb
    · by_cases e:j=k
      · subst e
        have:r=r':= Option.some.inj (hj.symm.trans c.get);subst this;have:t=t':= by
          rcases hT with⟨l,rfl⟩|⟨l,rfl⟩
          · simp only[List.getElem?_set_self l,Option.some.injEq]at ht;exact ht.symm
          · rw[l]at ht;simp at ht;exact ht.symm
        subst this;exact a9 _ q
      · have a:g.tk[j]? =some r:=(c.other e).symm.trans hj
        have ag:=(List.getElem?_eq_some_iff.1 a).1;refine(X.tok j t r a ?_).mono q λb o f=>d b o (X.bd a f) λr2 u=>X.tkd j k r r2 e a u b o f
        rcases hT with⟨l,rfl⟩|⟨l,rfl⟩
        · simpa [Ne.symm e]using ht
        · have ac:j<H.T.length:=om
          simpa [List.getElem?_append_left ac]using ht
    · by_cases e:j=k
      · subst e
        have:r=r':= Option.some.inj (hj.symm.trans c.get);subst this;obtain⟨l,h2,h3⟩:=hz b o f;refine⟨λh=> ?_,λhb=> ?_,l,h2⟩
        · rcases h with h|h
          · rcases h3 with h3|⟨r0,h3,h4⟩
            · have:=X.imlt b o h;omega
            · exact(X.tkz j r0 h3 b o h4).1 h
          · exact(hJ b o h).1 f
        · rcases h3 with h3|⟨r0,h3,h4⟩
          · have:=X.be hb;omega
          · exact(X.tkz j r0 h3 b o h4).2.1 hb
      · have a:g.tk[j]? =some r:=(c.other e).symm.trans hj
        obtain⟨l,h2,h3,h4⟩:=X.tkz j r a b o f;have hb:=X.bd a f;have O:=d b o hb λr2 u=>X.tkd j k r r2 e a u b o f
        refine⟨λh=> ?_,h2,by rw[O];exact h3,(p b o hb).trans h4⟩;rcases h with h|h
        · exact l h
        · rcases (hJ b o h).2.2 with h|⟨r2,u,hzr⟩
          · omega
          · exact X.tkd j k r r2 e a u b o f hzr
    · by_cases e:j=k
      · subst e
        have:r=r':= Option.some.inj (hj.symm.trans c.get);subst this;have a:g.tk[j']? =some r2:=(c.other (Ne.symm y)).symm.trans a1;rcases (hz b o f).2.2 with h|⟨r0,h3,h4⟩
        · have:=X.bd a z;omega
        · exact X.tkd j j' r0 r2 y h3 a b o h4 z
      · have a:g.tk[j]? =some r:=(c.other e).symm.trans hj
        by_cases e': j'= k
        · subst e'
          have:r2=r':= Option.some.inj (a1.symm.trans c.get);subst this;rcases (hz b o z).2.2 with h|⟨r0,h3,h4⟩
          · have:=X.bd a f;omega
          · exact X.tkd j j' r r0 y a h3 b o f h4
        · exact X.tkd j j' r r2 y a ((c.other e').symm.trans a1) b o f z
    · rcases h with h|h
      · exact Nat.lt_of_lt_of_le (X.imlt b o h) x
      · exact(hJ b o h).2.1
def FK(d:Inv g H w){z:Nat}(ht:t.fresh=true)(h:Aa g w (.slice [] t) u):
    ∃g', Ar g w g' w/\Inv g' ⟨H.B,H.T++[.aa []]⟩ w/\Aa g' w (.aa H.T.length z 0 0 0) u:=by
  obtain⟨e,cap,sz,Us,rfl,m,n,c,l,q,v⟩:=h;have j:Us=[]:=l;subst j;have a:cap=0:=by
    cases t with
    |full=>exact c.symm
    |nil=>exact c.2
    |no=>cases ht
    |nn=>cases ht
    |own k z=>cases ht
  subst a;have hk:g.tk[H.T.length]? =none:=by rw[<-d.lenT];simp
  obtain⟨g', e1,f,i,_⟩:=Ks (r':= ⟨none,0,0,z,0⟩) (t' := .aa []) (J:=λ_ _=>False) d (w':= w) (.inr ⟨rfl,rfl⟩) (Nat.le_refl _) rfl rfl rfl (λ_ _ _=>rfl) (λ_ _ _ _=>rfl) (λ_ _ _=>rfl) (λ_ _ h=>h.elim)
    (λb o ⟨p,hp,_⟩=>Xz) (λr hr=>by rw[hk]at hr;cases hr) (λg' _=>⟨rfl,rfl,Nat.le_refl _,[],rfl,λ_=>rfl,Wb,λp hp=>Xz⟩)
  exact⟨g', e1,f,e,0,rfl,Nat.le_refl _,Nat.le_refl _,Nat.le_refl _,by simp[maxLen],(λh=>om),_,i,rfl,Nat.le_refl _,λ_=>⟨rfl,rfl,λh=>om⟩⟩
structure BR(g:Gh)(w:World)(k z:Nat)(xs:List AV)(r:A8)(Vs:List Value):Prop where
  hr:g.tk[k]? =some r
  sz:r.sz=z
  n:r.n=xs.length
  lo:r.lo=0
  cap:xs.length<=r.cap
  a6:AM g w xs Vs
  nil0:r.base=none->Vs=[]
  size:∀V∈Vs,V.cells.size=z
  mem:∀p:Addr,r.base=some p->(p.spot=none\/r.cap=0)/\Bq w p.block z p.off Vs
def FL(b:Inv g H w){n:Nat}(h:Aa g w (.aa k z n lo X) u)(hT:H.T[k]? =some (.aa xs))(hn:xs.length=n):∃r Vs,BR g w k z xs r Vs:=by obtain⟨a,cap,rfl,j,l,h3,h4,m,r,hr,hz,c,o⟩:=h;obtain⟨t1,t2,p,Vs,d,e,f,i⟩:=b.tok k _ r hr hT;subst hz;exact⟨r,Vs,hr,rfl,t1,t2,om,d,e,f,i⟩
theorem BR.len(h:BR g w k z xs r Vs):Vs.length=xs.length:=h.a6.length
theorem BR.a1(h:BR g w k z xs r Vs)(hp:r.base=some p){o:Nat}(a:o<r.cap * z):r.a1 p.block (p.off+o):=
  ⟨p,hp,rfl,by rw[h.lo];omega,by rw[h.sz];omega⟩
def HY(hI:Inv g H w){Us:List Value}(h:BR g w k z xs r Vs)(hT:H.T[k]? =some (.aa xs))(hp:r.base=some p)(a3:p.spot=none){cs:List Value}
    (a:B4 w w' p.block (p.off+at_) cs) (ab:at_+cs.length<=r.cap * z) (a0:0<cs.length) (hU:AM g w ys Us) (y:∀V∈Us,V.cells.size=z) (a6:xs.length<=ys.length) (t:xs.length=ys.length\/xs.length<ys.length) (i:ys.length<=r.cap)
    (l:Bq w' p.block z p.off Us):
    ∃g', Ar g w g' w'/\ Inv g' ⟨H.B,H.T.set k (.aa ys)⟩ w'/\ g'.tk[k]? =some { r with n:=ys.length }:=by
  have a1:k<H.T.length:=(List.getElem?_eq_some_iff.1 hT).1;have u:∀j,j<cs.length->r.a1 p.block (p.off+at_+j):=λj hj=>by rw[add_assoc];exact h.a1 hp om
  have f:∀b o,(∀x,g.tk[k]? =some x->¬x.a1 b o)->w'.cell? ⟨b,o,none⟩=w.cell? ⟨b,o,none⟩:=by
    intro b o d;by_cases e:b=p.block
    · subst e
      refine a.there o ?_;refine Classical.byContradiction λO=>d r h.hr ?_
      have:=u (o-(p.off+at_)) om;simp_all
    · exact(cI (a.block b e)).1
  have c:∀b o,w'.frozen? ⟨b,o,none⟩=w.frozen? ⟨b,o,none⟩:=by
    intro b o;by_cases e:b=p.block
    · subst e;exact a.frozen o
    · exact(cI (a.block b e)).2
  obtain⟨g', e1,e2,e3,_⟩:=Ks (r':= { r with n:=ys.length }) (t' := .aa ys) (J:=λ_ _=>False) hI (w':= w') (.inl ⟨a1,rfl⟩) (by rw[a.size];exact Nat.le_refl _) a.os a.tape a.output
    (λb hb d=>by
      by_cases e:b=p.block
      · subst e
        exact absurd (u 0 a0) (d r h.hr _)
      · exact a.block b e)
    (λb o _ d=>f b o d) (λb o _=>c b o) (λ_ _ h=>h.elim)
    (λb o ho=>by
      have m:r.a1 b o:=ho;obtain⟨_,_,⟨v,hv⟩,hf⟩:=hI.tkz k r h.hr b o m;refine⟨?_,(c b o).trans hf, .inr ⟨r,h.hr,m⟩⟩;by_cases e:b=p.block
      · subst e
        by_cases ac:p.off+at_<=o/\o<p.off+at_+cs.length
        · have hj:o-(p.off+at_)<cs.length:=om
          have:=a.here (o-(p.off+at_)) _ (List.getElem?_eq_getElem hj);rw[show p.off+at_+(o-(p.off+at_))=o by omega]at this;exact⟨_,this⟩
        · exact⟨v,(a.there o om).trans hv⟩
      · exact⟨v,(cI (a.block b e)).1.trans hv⟩)
    (λx a4=>by
      have:x=r:=Option.some.inj (a4.symm.trans h.hr);subst this;rcases t with e|e
      · left
        rw[<-e, <-h.n]
      · right
        exact⟨by rw[h.n];exact e,rfl⟩)
    (λg' a2=>⟨rfl,h.lo,i,Us,AM.mono a2 _ _ hU,(λe=>by rw[hp]at e;cases e),by rw[h.sz];exact y,λq hq=>by have:q=p:=Option.some.inj (hq.symm.trans hp);subst this;refine⟨.inl a3, ?_⟩;rw[h.sz];exact l⟩)
  exact⟨g', e1,e2,e3⟩
def Mj(t:Inv g H w){n:Nat}(h:Aa g w (.aa k z n lo X) u)(hT:H.T[k]? =some (.aa xs))(hn:xs.length=n):
    ∃g', Ar g w g' w/\Inv g' ⟨H.B,H.T.set k (.len (n+1))⟩ w/\Aa g' w (.slice ((xs.take X).drop lo) .no) u:=by
  obtain⟨r,Vs,c⟩:=FL t h hT hn;have y:k<H.T.length:=(List.getElem?_eq_some_iff.1 hT).1;obtain⟨a,cap,rfl,h1,h2,h3,h4,h5,r0,a1,hz,aa,h6⟩:=h;have:r0=r:=Option.some.inj (a1.symm.trans c.hr);subst this;obtain⟨l1,l2,l3⟩:=h6 (by rw[c.n,hn]);have ad:Vs.length=n:=by rw[c.len,hn]
  obtain⟨g', e1,e2,e3,e4⟩:=Ks (r':= ⟨none,n+1,0,z,n+1⟩) (t' := .len (n+1)) (J:=λb o=>r0.a1 b o) t (w':= w) (.inl ⟨y,rfl⟩) (Nat.le_refl _) rfl rfl rfl (λ_ _ _=>rfl) (λ_ _ _ _=>rfl) (λ_ _ _=>rfl)
    (λb o m=>⟨(λ⟨p,hp,_⟩=>Xz),t.bd c.hr m, .inr ⟨r0,c.hr,m⟩⟩)
    (λb o ⟨p,hp,_⟩=>Xz) (λr1 a2=>by have:r1=r0:=Option.some.inj (a2.symm.trans c.hr);subst this;exact .inr ⟨by rw[c.n,hn];show n<n+1;omega,by rw[c.sz]⟩) (λg' _=>⟨rfl,rfl⟩)
  refine⟨g', e1,e2,a,cap-lo,z,(Vs.take X).drop lo, ?_, ?_,om,trivial,((AM.mono e1.le _ _ c.a6).take X).drop lo,λe=> ?_,λq hq=> ?_⟩
  · simp_all
  · simp;omega
  · grind
  · by_cases a0:lo<cap
    · obtain⟨p,hp,ab,l⟩:=l3 a0
      rw[hq]at l;cases l;refine⟨.inl rfl,λi V v=> ?_⟩;rw[getElem?_drop]at v;have hV:Vs[lo+i]? =some V:=WZ
      obtain⟨m1,m2⟩:=(c.mem p hp).2 (lo+i) V hV;refine⟨m1,λj x hj=> ?_⟩;obtain⟨_,m3,m4⟩:=m2 j x hj;have d:p.off+(lo+i) * z+j=p.off+lo * z+i * z+j:=Zw
      rw[d]at m3;refine⟨e4 _ _ ?_,m3,m4⟩;have a9:j<z:=by have:=(Array.getElem?_eq_some_iff.1 hj).1;omega
      have a8:lo+i<n:=by have:=(List.getElem?_eq_some_iff.1 hV).1;omega
      have hb:(lo+i+1) * z<=r0.cap * z:=mul_le_mul_right _ om;rw[succ_mul]at hb;have:=c.a1 hp (o:=(lo+i) * z+j) om
      rwa [show p.off+((lo+i) * z+j)=p.off+lo * z+i * z+j by omega]at this
    · have f:(Vs.take X).drop lo=[]:=by apply eq_nil_of_length_eq_zero;simp;omega
      rw[f];exact⟨.inr rfl,λi V X=>XX⟩
end
section rules
variable {P:Program} [Lay P] {A:Array Oper} {G:Bool} {K:AX->AE->St->Prop} {C:List Oper} {I:List Aj} {s:AE} {H:St}
variable {d:Tmp} {R:TypeId} {D:String} {S:Array Edge}
theorem FM{α:Type}{l:List α}{x:α}(h:l[k]? =some x):l.set k x=l:=by apply List.ext_getElem?;grind
def Ex{R:TypeId}{n:Nat}{d:TI}(hT:ty? P T=some d)(hk:d.kind = .slice)(hE:ty? P d.elem=some te)(l:te.size=z)(bw:0<z)
    {g:Gh} {w:World} (hI:Inv g H w) {ux uy:Value} (h1:Aa g w (.aa k z n 0 n) ux) {Ys:List Value} (a:CY g w te.size ys uy Ys) (ab:H.T[k]? =some (.aa xs)) (hn:xs.length=n)
    (hb:(n+ys.length) * te.bytes<=140737488355328) (hb': n+ys.length<=4611686018427387904):
    ∃v w' g', (Builtin.append_ #[T,T] R #[ux,uy]).run P w = .ok v w'/\ Ar g w g' w'/\ Inv g' ⟨H.B,H.T.set k (.aa (xs++ys))⟩ w'/\ Aa g' w' (.aa k z (n+ys.length) 0 (n+ys.length)) v:=by
  have ad:Ys.length=ys.length:=a.a6.length;have kl:k<H.T.length:=(List.getElem?_eq_some_iff.1 ab).1;obtain⟨r,Us,x⟩:=FL hI h1 ab hn;have bl:=h1;obtain⟨a0,cap,rfl,_,_,c3,c4,c5,r0,bt,hz,ak,h6⟩:=h1;have:r0=r:=Option.some.inj (bt.symm.trans x.hr);subst this;obtain⟨l1,l2,l3⟩:=h6 (by rw[x.n,hn]);simp only[Nat.sub_zero,Nat.zero_mul,Nat.add_zero]at *
  have ac:Us.length=n:=by rw[<-hn];exact x.len
  obtain⟨c9,dd,z0,t1,t2,t3,t4,_⟩:=(eH hT).ex;have hd:∃e,dd = .slice e:=Wk
  obtain⟨el,rfl⟩:=hd;have bp:el=d.elem:=t4;subst bp;obtain⟨ie,de,ze,u1,u2,u3,u4,u5,u6,u7,u8,u9,c1,cw,cx,cy⟩:=(eH hE).ex;have an:=x.size;have ao:∀V∈Ys,V.cells.size=z:=λV hV=>by rw[<-l];exact a.size V hV
  have y:∀V∈Us++Ys,V.cells.size=z:=λV hV=>(mem_append.1 hV).elim (an V) (ao V)
  have m:(xs++ys).length=n+ys.length:=by rw[List.length_append,hn]
  by_cases hm:Ys.length=0
  · have bo:=eq_nil_of_length_eq_zero hm
    subst bo;have bb:ys=[]:=eq_nil_of_length_eq_zero (by rw[<-ad];rfl);subst bb;refine⟨.slice a0 n cap,w,g, ?_,eV g w, ?_,bl⟩
    · rcases a.form with⟨b,c,rfl,_⟩|⟨rfl,_⟩
      · have ai:(Builtin.firstCells ie.size 0 (.slice (some b) 0 c)).run P w = .ok #[] w:=by simp[Builtin.firstCells,loadCells,loadCellsFrom]
        cases a0<;>simp[Builtin.append_,run_underlying t2,sizeOf,typeInfo,u1,Builtin.lenOf,c3,ai,storeCells]
      · cases a0<;>simp[Builtin.append_,run_underlying t2,sizeOf,typeInfo,u1,Builtin.lenOf,c3,Builtin.firstCells,storeCells]
    · rw[List.append_nil,FM ab];exact hI
  · have i:0<Ys.length:=om
    rcases a.form with⟨sb,sc,rfl,f⟩|⟨_,e⟩
    case inr=>rw[e]at i;simp at i
    have a3:(flat Ys).length=Ys.length * ie.size:=by rw[u6,l];exact cZ ao
    have a1:(flat Us).length=n * ie.size:=by rw[u6,l,cZ an,ac]
    have a2:n+Ys.length<=maxLen:=by unfold maxLen;omega
    have a6:∀old,old<n+Ys.length->Builtin.nextslicecap (n+Ys.length) old * ie.bytes<=281474976710656:=λold h=>growslice_fits h (by rw[ad,u7];exact hb)
    have bx:ze.cells.size=z:=c1.trans l;have a5:∀(old:Nat) (a7:∀v∈flat Us,v.oneCell'= true),old<n+Ys.length->∃g',
        Ar g w g' (w.drew.alloc (.cells ((flat Us).toArray++(flat Ys).toArray++Builtin.zeroCells ze.cells (grownCap w (n+Ys.length) old d.elem-(n+Ys.length))) d.elem))/\
        Inv g' ⟨H.B,H.T.set k (.aa (xs++ys))⟩ (w.drew.alloc (.cells ((flat Us).toArray++(flat Ys).toArray++Builtin.zeroCells ze.cells (grownCap w (n+Ys.length) old d.elem-(n+Ys.length))) d.elem))/\
        Aa g' (w.drew.alloc (.cells ((flat Us).toArray++(flat Ys).toArray++Builtin.zeroCells ze.cells (grownCap w (n+Ys.length) old d.elem-(n+Ys.length))) d.elem)) (.aa k z (n+ys.length) 0 (n+ys.length))
          (.slice (some ⟨w.heap.size,0,none⟩) (n+Ys.length) (grownCap w (n+Ys.length) old d.elem)):=by
      intro old a7 c8;have cm:=grownCap_ge w (n+Ys.length) old d.elem;have b3:=grownCap_le_maxLen w (n+Ys.length) old d.elem a2;have am:grownCap w (n+Ys.length) old d.elem * z=((flat Us).toArray++(flat Ys).toArray++Builtin.zeroCells ze.cells (grownCap w (n+Ys.length) old d.elem-(n+Ys.length))).size:=by
        simp only[Array.size_append,List.size_toArray,size_zeroCells,bx,cZ an,cZ ao, <-add_mul,ac]
        congr 1
        omega
      let cells:=(flat Us).toArray++(flat Ys).toArray++Builtin.zeroCells ze.cells (grownCap w (n+Ys.length) old d.elem-(n+Ys.length))
      have bm:=hI.drew (w.drawn+1);have ap:∀b o,(⟨some ⟨w.heap.size,0,none⟩,n+ys.length,grownCap w (n+Ys.length) old d.elem,z,0⟩:A8).a1 b o->b=w.heap.size/\o<cells.size:=by rintro b o ⟨p,hp,rfl,e1,e2⟩;cases hp;refine⟨rfl, ?_⟩;show o<cells.size;rw[<-am];simpa using e2
      obtain⟨g', e1,e2,e3,_⟩:=Ks (r':= ⟨some ⟨w.heap.size,0,none⟩,n+ys.length,grownCap w (n+Ys.length) old d.elem,z,0⟩) (t' := .aa (xs++ys)) (J:=λ_ _=>False) bm (w':= dO w.drew (.cells cells d.elem)) (.inl ⟨kl,rfl⟩)
        XJ rfl rfl rfl (λb hb _=>cQ w.drew _ hb) (λb o hb _=>(cI (cQ w.drew _ hb)).1) (λb o hb=>(cI (cQ w.drew _ hb)).2) (λ_ _ h=>h.elim)
        (λb o ho=>by obtain⟨rfl,h2⟩:=ap b o ho;refine⟨?_,j5 w.drew cells d.elem o, .inl (Nat.le_refl _)⟩;have:=dV w.drew cells d.elem o;exact⟨cells[o],this.trans (Array.getElem?_eq_getElem h2)⟩)
        (λr1 bu=>by have:r1=r0:=Option.some.inj (bu.symm.trans x.hr);subst this;exact .inr ⟨by rw[x.n,hn];show n<n+ys.length;omega,by rw[x.sz]⟩)
        (λg' ak=>⟨m.symm,rfl,(by show n+ys.length<=grownCap w (n+Ys.length) old d.elem;omega),Us++Ys,(AM.mono ak _ _ (AM.mono (Ar.drew g w (w.drawn+1)).le _ _ x.a6)).append (AM.mono ak _ _ (AM.mono (Ar.drew g w (w.drawn+1)).le _ _ a.a6)),(λe=>by cases e),y,λp hp=>by
          cases hp;refine⟨.inl rfl,fG y λj u hj=> ?_⟩;refine⟨trivial, ?_, ?_⟩
          · show (dO w.drew (.cells cells d.elem)).cell? ⟨w.heap.size,0+j,none⟩=some u
            rw[Nat.zero_add];refine(dV w.drew cells d.elem j).trans ?_;rw[gU]at hj;have bq:=(List.getElem?_eq_some_iff.1 hj).1;rw[<-getElem?_toList,Array.toList_append,Array.toList_append,List.getElem?_append_left (by simpa using bq)];simpa using hj
          · have hm:=mem_of_getElem? hj
            rw[gU]at hm;exact(mem_append.1 hm).elim (a7 u) (a.one u)⟩)
      refine⟨g', (Ar.drew g w _).trans e1,e2,some ⟨w.heap.size,0,none⟩,grownCap w (n+Ys.length) old d.elem,by rw[ad];rfl,zero_le _,Nat.le_refl _,om,b3,(λ_=>⟨_,_,rfl⟩),_,e3,rfl,Nat.le_refl _,λ_=>⟨rfl,rfl,λ_=>⟨_,rfl,rfl,Wb⟩⟩⟩
    cases a0 with
    |none=>
      have ag:cap=0:=by
        rcases Nat.eq_zero_or_pos cap with h|h
        · exact h
        · obtain⟨b,o,hh⟩:=c5 h;cases hh
      subst ag;have al:n=0:=om
      subst al;have af:=eq_nil_of_length_eq_zero ac;subst af;obtain⟨g', n1,n2,n3⟩:=a5 0 Y2 XN;have t:=run_append_nil (P:=P) w T R d.elem ie ze t2 u1 u8 sb Ys.length sc (flat Ys) a3 (λj v hj=>(f j v hj).1) i (by have:=a2;unfold maxLen at this;simp at this;omega) (by have:=a6 0 XN;rw[Nat.zero_add,nextslicecap_zero i]at this;exact this);refine⟨_,_,g', t, ?_, ?_, ?_⟩
      · simpa [flat]using n1
      · simpa [flat]using n2
      · simpa [flat]using n3
    |some p=>
      by_cases az:0<cap
      case neg=>
        have ag:cap=0:=om
        subst ag;have al:n=0:=om
        subst al;have af:=eq_nil_of_length_eq_zero ac;subst af;obtain⟨g', n1,n2,n3⟩:=a5 0 Y2 XN;have t:=run_append_grow (P:=P) w T R d.elem ie ze t2 u1 u8 p 0 0 (flat []) a1 (λj v hj=>by simp[flat]at hj) sb Ys.length sc (flat Ys) a3 (λj v hj=>(f j v hj).1) XN (by have:=a2;unfold maxLen at this;omega) (a6 0 XN);exact⟨_,_,g', t,n1,n2,n3⟩
      obtain⟨q,hq,bs,br⟩:=l3 az;obtain⟨qb,qo,qs⟩:=q;cases (show qs=none from bs);cases br;have b4:=(x.mem _ hq).2;have ah:∀(j:Nat) (v:Value),(flat Us)[j]? =some v->w.cell? ((⟨qb,qo,none⟩:Addr).add j)=some v/\v.oneCell'= true:=λj v hj=>by obtain⟨m1,m2,m3⟩:=b4.flat hj;rw[eI];exact⟨m2,m3⟩
      have b5:∀v∈flat Us,v.oneCell'= true:=λv x=>by obtain⟨j,hj⟩:=List.getElem?_of_mem x;exact(ah j v hj).2
      by_cases a8:n+Ys.length<=cap
      · have ai:(Builtin.firstCells ie.size Ys.length (.slice (some sb) Ys.length sc)).run P w = .ok (flat Ys).toArray w:=run_firstCells_some (P:=P) w ie.size Ys.length sb Ys.length sc (flat Ys) a3 (λj v hj=>(f j v hj).1)
        have ay:n * z+(flat Ys).length<=r0.cap * z:=by rw[a3,u6,l, <-add_mul,l2];exact mul_le_mul_right _ a8
        have ba:0<(flat Ys).length:=by rw[a3,u6,l];exact Nat.mul_pos i bw
        have bc:∀j,j<(flat Ys).length->r0.a1 qb (qo+n * z+j):=λj hj=>by rw[add_assoc];exact x.a1 hq om
        obtain⟨w', bv,hs⟩:=tI (P:=P) qb (flat Ys) 0 (qo+n * z) w (λj hj=>(hI.tkz k r0 x.hr qb _ Yx).2.2.1) (λj hj=>(hI.tkz k r0 x.hr qb _ Yx).2.2.2) a.one;obtain⟨g', n1,n2,n3⟩:=HY hI x ab hq rfl hs ay ba (ys:=xs++ys) (Us:=Us++Ys) (x.a6.append a.a6) y (by rw[m,hn];omega) (.inr (by rw[m,hn];omega)) (by rw[m];omega)
          (fG y λj u hj=>by
            rw[gU]at hj;refine⟨trivial, ?_⟩;show w'.cell? ⟨qb,qo+j,none⟩=some u/\u.oneCell'= true;by_cases b2:j<(flat Us).length
            · rw[List.getElem?_append_left b2]at hj
              obtain⟨m1,m2⟩:=ah j u hj;rw[eI]at m1;rw[a1,u6,l]at b2;exact⟨(hs.there (qo+j) (.inl om)).trans m1,m2⟩
            · rw[List.getElem?_append_right om]at hj
              have b1:=hs.here (j-(flat Us).length) u hj;have aj:(flat Us).length=n * z:=by rw[a1,u6,l]
              have b0:qo+n * z+0+(j-(flat Us).length)=qo+j:=by rw[<-aj];omega
              rw[b0]at b1;exact⟨b1,a.one u (mem_of_getElem? hj)⟩)
        refine⟨.slice (some ⟨qb,qo,none⟩) (n+Ys.length) cap,w', g', ?_,n1,n2,some ⟨qb,qo,none⟩,cap,by rw[ad];rfl,zero_le _,Nat.le_refl _,om,c4,(λ_=>⟨_,_,rfl⟩),_,n3,hz,by rw[m];exact Nat.le_refl _,λ_=>⟨x.lo,l2,λ_=>⟨_,hq,rfl,Wb⟩⟩⟩;have ax:(⟨qb,qo,none⟩:Addr).add (n * ie.size)=⟨qb,qo+n * z,none⟩:=by rw[eI,u6,l]
        simp[Builtin.append_,run_underlying t2,sizeOf,typeInfo,u1,Builtin.lenOf,a8,ai,ax,bv]
      · obtain⟨g', n1,n2,n3⟩:=a5 cap b5 om
        have t:=run_append_grow (P:=P) w T R d.elem ie ze t2 u1 u8 ⟨qb,qo,none⟩ n cap (flat Us) a1 (λj v hj=>(ah j v hj).1) sb Ys.length sc (flat Ys) a3 (λj v hj=>(f j v hj).1) om (by have:=a2;unfold maxLen at this;omega) (a6 cap om);exact⟨_,_,g', t,n1,n2,n3⟩
def eG{x y:Operand}{n m:Nat}{l c:TI}(hT:ty? P T=some l)(hk:l.kind = .slice)(hE:ty? P l.elem=some c)(hz:Nat.beq c.size z=true)(j:Nat.blt 0 z=true)
    (hx:ev? s x=some (.aa k z n 0 n)) (hy:ev? s y=some (.slice ys t)) (h:H.T[k]? =some (.aa xs)) (hn:xs.length=n) (hf:eK c.agg c.size ys=true) (hm:n+ys.length=m)
    (hb:m * c.bytes<=140737488355328) (hb': m<=4611686018427387904) (e:jX k (.aa (xs++ys)) H.T some=some T')
    (kk:AD P A G K C (.tk::I) ((d, .aa k z m 0 m)::s) ⟨H.B,T'⟩):AD P A G K (⟨some d, .call ⟨.builtin .append, #[x,y], #[T,T]⟩,R,D,S,none⟩::C) I s H:=
  bU (t := .tk) (Y:=⟨H.B,T'⟩) rfl ⟨rfl,λB=>by
    intro g w a next Q hI o i
    subst hm
    have u:=op1 hx Wm o
    have h2:=op1 hy Wm o
    obtain⟨Ys,b⟩:=I6 h2 hf
    obtain⟨kl,f⟩:=d7 _ _ _ _ _ e
    obtain⟨v,w', g', e1,p,q,r⟩:=Ex (H:=⟨B,H.T⟩) (R:=R) hT hk hE (eq_of_beq_eq_true hz) (Nat.le_of_ble_eq_true j) hI u b h hn hb hb'
    unfold Oper.wp
    rw[j8 e1]
    refine i v w' g' p ?_ r
    rw[show (⟨H.B,T'⟩:St).T=T' from rfl, <-Option.some.inj f]
    exact q⟩ kk
def dJ{x y:Operand}{ys:List AV}{t': Tk}{m:Nat}{o b:TI}(hT:ty? P T=some o)(hk:o.kind = .slice)(hE:ty? P o.elem=some b)(l:Nat.blt 0 b.size=true)
    (hx:ev? s x=some (.slice [] t')) (ht:t'.fresh=true) (hy:ev? s y=some (.slice ys t)) (h:dN H.T=some k) (hf:eK b.agg b.size ys=true) (hm:ys.length=m)
    (hb:m * b.bytes<=140737488355328) (hb': m<=4611686018427387904) (e:kP H.T (.aa ys) some=some T')
    (kk:AD P A G K C (.tk::I) ((d, .aa k b.size m 0 m)::s) ⟨H.B,T'⟩):AD P A G K (⟨some d, .call ⟨.builtin .append, #[x,y], #[T,T]⟩,R,D,S,none⟩::C) I s H:=
  bU (t := .tk) (Y:=⟨H.B,T'⟩) rfl ⟨rfl,λB=>by
    intro g w a next Q hI p j
    subst hm
    have h1:=op1 hx Wm p
    have h2:=op1 hy Wm p
    obtain⟨g1,e1,q,r⟩:=FK (z:=b.size) hI ht h1
    obtain⟨Ys,c⟩:=I6 (Aa.mono e1.le _ _ h2) hf
    have i:H.T.length=k:=dI h
    have f:H.T++[Tok.aa ys]=T':= Option.some.inj (eQ _ _ _ _ e)
    obtain⟨v,w', g', u,f2,f3,f4⟩:=Ex (H:=⟨B,H.T++[.aa []]⟩) (R:=R) (n:=0) (xs:=[]) hT hk hE rfl (Nat.le_of_ble_eq_true l) q r c Wb rfl (by simpa using hb) (by simpa using hb')
    unfold Oper.wp
    rw[j8 u]
    refine j v w' g' (e1.trans f2) ?_ (by rw[<-i];simpa using f4)
    have:(H.T++[Tok.aa []]).set H.T.length (.aa ([]++ys))=T':= by rw[<-f];simp
    rw[<-this]
    exact f3⟩ kk
end rules
theorem xR{sz:Nat}:∀ {Vs:List Value} (i:Nat),(∀V∈Vs,V.cells.size=sz)->flat (Vs.take i)=(flat Vs).take (i * sz)
  |[],i,_=>by simp[flat]
  |V::Vs,0,h=>by simp[flat]
  |V::Vs,i+1,h=>by have a:=h V Wb;rw[List.take_succ_cons,lA,lA,xR i (λV a=>h V Ww),succ_mul,Nat.add_comm,List.take_append,List.take_of_length_le (l:=V.cells.toList) (by rw[length_toList];omega),length_toList,a,Nat.add_sub_cancel_left]
theorem rU{sz:Nat}:∀ {Vs:List Value} (i:Nat),(∀V∈Vs,V.cells.size=sz)->flat (Vs.drop i)=(flat Vs).drop (i * sz)
  |[],i,_=>by simp[flat]
  |V::Vs,0,h=>by simp
  |V::Vs,i+1,h=>by have a:=h V Wb;rw[List.drop_succ_cons,lA,rU i (λV a=>h V Ww),succ_mul,Nat.add_comm,List.drop_append,List.drop_of_length_le (l:=V.cells.toList) (by rw[length_toList];omega),length_toList,a,Nat.add_sub_cancel_left,List.nil_append]
theorem QU{sz:Nat}{j:Nat}{V': Value}(h:∀V∈Vs,V.cells.size=sz)(hj:j<Vs.length):flat (Vs.set j V')=(flat Vs).take (j * sz)++V'.cells.toList++(flat Vs).drop ((j+1) * sz):=by rw[List.set_eq_take_append_cons_drop,if_pos hj,gU,lA,xR j h,rU (j+1) h,List.append_assoc]
def FN(z:Value)(n:Nat):flat (List.replicate n z)=(Builtin.zeroCells z.cells n).toList:=by
    apply List.ext_getElem?;intro k;have hs:∀V∈List.replicate n z,V.cells.size=z.cells.size:=λV c=>by rw[(List.mem_replicate.1 c).2]
    have d:(flat (List.replicate n z)).length=n * z.cells.size:=by rw[cZ hs,List.length_replicate]
    by_cases hk:k<n * z.cells.size
    · have a:0<z.cells.size:=by grind
      have X:k/z.cells.size<n:=Nat.div_lt_of_lt_mul (by rwa [Nat.mul_comm]);have he:k=k/z.cells.size * z.cells.size+k % z.cells.size:=by have:=Nat.div_add_mod k z.cells.size;rw[Nat.mul_comm]at this;exact this.symm
      have b:=vF (Vs:=List.replicate n z) (i:=k/z.cells.size) (j:=k % z.cells.size) (V:=z) hs (by simp[X]) (Nat.mod_lt _ a);rw[<-he]at b;rw[b];have e:k % z.cells.size<z.cells.size:=Nat.mod_lt _ a;simp only[Builtin.zeroCells,toList_map,List.getElem?_map,Array.toList_range];grind
    · rw[List.getElem?_eq_none om,List.getElem?_eq_none];simp[Builtin.zeroCells];omega
section
variable {P:Program} {g:Gh} {H:St} {w:World}
theorem BR.cq(h:BR g w k z xs r Vs):(flat Vs).length=xs.length * z:=by rw[cZ h.size,h.len]
def Jk(i:Inv g H w){Us:List Value}(h:BR g w k z xs r Vs)(hT:H.T[k]? =some (.aa xs))(hp:r.base=some p)(q:p.spot=none){cs:List Value}
    (o:flat Us=(flat Vs).take at_++cs++(flat Vs).drop (at_+cs.length)) (y:at_<=(flat Vs).length) (l:at_+cs.length<=r.cap * z) (m:0<cs.length) (e:∀v∈cs,v.oneCell'= true) (hU:AM g w ys Us) (b:∀V∈Us,V.cells.size=z) (d:xs.length<=ys.length) (c:ys.length<=r.cap):
    ∃w' g', (storeCells ⟨p.block,p.off+at_,none⟩ cs).run P w = .ok () w'/\ Ar g w g' w'/\ Inv g' ⟨H.B,H.T.set k (.aa ys)⟩ w'/\ g'.tk[k]? =some { r with n:=ys.length }:=by
  have f:∀j,j<cs.length->r.a1 p.block (p.off+at_+j):=λj hj=>by rw[add_assoc];exact h.a1 hp om
  obtain⟨w', a2,hs⟩:=tI (P:=P) p.block cs 0 (p.off+at_) w (λj hj=>(i.tkz k r h.hr p.block _ (by simpa using f j hj)).2.2.1) (λj hj=>(i.tkz k r h.hr p.block _ (by simpa using f j hj)).2.2.2) e;obtain⟨g', n1,n2,n3⟩:=HY i h hT hp q hs l m hU b d om c
    (fG b λj u hj=>by
      refine⟨trivial, ?_⟩;rw[o]at hj;by_cases h1:j<at_
      · rw[List.append_assoc,List.getElem?_append_left Wl,List.getElem?_take_of_lt h1]at hj
        obtain⟨_,t,x⟩:=(h.mem p hp).2.flat hj;exact⟨(hs.there (p.off+j) (.inl om)).trans t,x⟩
      · by_cases h2:j<at_+cs.length
        · rw[List.getElem?_append_left Wl,List.getElem?_append_right Wl]at hj
          have a:((flat Vs).take at_).length=at_:=Wl
          rw[a]at hj;have:=hs.here (j-at_) u hj;grind
        · rw[List.getElem?_append_right Wl,getElem?_drop]at hj
          have a:((flat Vs).take at_++cs).length=at_+cs.length:=Wl
          rw[a,show at_+cs.length+(j-(at_+cs.length))=j by omega]at hj;obtain⟨_,t,x⟩:=(h.mem p hp).2.flat hj;exact⟨(hs.there (p.off+j) (.inr om)).trans t,x⟩)
  grind
def Mk[Lay P]{c:TI}(hT:ty? P T=some c){b o a:Nat}{cs:List AV}{J:List Value}{v:AV}(i:AM g w cs J)(f:∀u∈J,u.oneCell'= true)
    (d:∀(j:Nat) (u:Value),J[j]? =some u->w.cell? ⟨b,o+j,none⟩=some u) (r:cut c.agg c.size a cs=some v):∃V,Aa g w v V/\(loadVar T ⟨b,o+a,none⟩).run P w = .ok V w:=by
  obtain⟨V,q,p,h3,h4⟩:∃V,Aa g w v V/\(∀(j:Nat) (u:Value),V.cells[j]? =some u->w.cell? ⟨b,o+a+j,none⟩=some u)/\(c.agg=true->∃vs,V = .agg vs/\vs.size=c.size)/\(c.agg=false->V.cells = #[V]):=by
    rcases vW r with⟨ha,_,rfl,m⟩|⟨ha,hg⟩
    · have k:=(i.drop a).take c.size;have l:((J.drop a).take c.size).length=c.size:=by have:=(i.drop a).length;simp_all
      refine⟨.agg ((J.drop a).take c.size).toArray,⟨_,rfl,by simpa using k,λu n=> ?_⟩,λj u hj=> ?_,λ_=>⟨_,rfl,XR⟩,λe=> ?_⟩
      · grind
      · rw[add_assoc];refine d _ u ?_;simp only[Value.cells,List.getElem?_toArray,List.getElem?_take,getElem?_drop]at hj;simp_all
      · simp_all
    · obtain⟨u,n,hr⟩:=i.get hg;have h:=f u (mem_of_getElem? n);have O:u.cells = #[u]:=by cases u<;>first|rfl|cases h
      grind
  exact⟨V,q,lU hT p h3 h4⟩
end
def Ml(agg:Bool)(cs:List AV):Option AV:=
  match agg with
  |true=>some (.agg cs)
  |false=>match cs with
    |[c]=>some c
    |_=>none
def Kt{g:Gh}{w:World}{agg:Bool}{cs:List AV}{LV:List Value}{e1:AV}(h:Ml agg cs=some e1)(b:AM g w cs LV)(d:∀u∈LV,u.oneCell'= true):∃V': Value,V'.cells.toList=LV/\Aa g w e1 V':= by
  cases agg with
  |true=>cases h;exact⟨.agg LV.toArray,by simp[Value.cells],_,rfl,Yj,by simpa using d⟩
  |false=>
    match cs,h,b with
    |[c],h,⟨u,C,e,h3,h4⟩=>
      cases h;have:C=[]:=h4;subst this;subst e;have a:=d u Wb;have f:u.cells = #[u]:=by cases u<;>first|rfl|cases a
      grind
    |[],h,_=>cases h
    |_::_::_,h,_=>cases h
section rules
variable {P:Program} [Lay P] {A:Array Oper} {G:Bool} {K:AX->AE->St->Prop} {C:List Oper} {I:List Aj} {s:AE} {H:St}
variable {d:Tmp} {R:TypeId} {D:String} {S:Array Edge}
def fI{x i:Operand}{n:Nat}{ik:IntKind}{m:Int}{r:Nat}{b y:TI}(hT:ty? P T=some b)(hk:b.kind = .slice)(hE:ty? P b.elem=some y)(hz:Nat.beq y.size z=true)
    (hx:ev? s x=some (.aa k z n lo X)) (f:ev? s i=some (.int ik m)) (hj:m=(j:Int)) (l:j<X-lo) (hr:lo+j=r)
    (kk:AD P A G K C (.pure::I) ((d, .ao k z n r 0)::s) H):AD P A G K (⟨some d, .indexAddr T x i,R,D,S,none⟩::C) I s H:=
  bU rfl (eY λg w a ho=>by
    have h1:=op1 hx We ho
    have h2:a.eval i = .int ik m:=op1 f We ho
    obtain⟨a0,cap,e,c1,c2,c3,c4,c5,rr,t,u,h,h6⟩:=h1
    obtain⟨a4,dd,z0,t1,t2,t3,t4,_⟩:=(eH hT).ex
    have hd:∃e,dd = .slice e:=Wk
    obtain⟨el,rfl⟩:=hd
    have c:el=b.elem:=t4
    subst c
    have v:y.size=z:=eq_of_beq_eq_true hz
    obtain⟨qb,qo,rfl⟩:=c5 om
    subst hj
    refine⟨.pointer (some ⟨qb,qo+j * z,none⟩), ?_,qb,qo+j * z,rfl,om,rr,t,u,h,λhn=> ?_⟩
    · rw[<-v]
      simp[execOp,Instr.indexAt,e,h2,asIntOf,run_underlying t2,Result.andThen,dA hE,l,eI]
    · obtain⟨l1,l2,l3⟩:=h6 hn
      obtain⟨p,hp,q,o⟩:=l3 om
      cases o
      exact⟨l1,p,hp,q,rfl,by rw[<-hr,add_mul];omega⟩) kk
def j4{x:Operand}{f k z nn j l o n:Nat}{ag:Bool}{r:Nat}(hT:ty? P T=some ti)(hx:ev? s x=some (.ao k z nn j l))(hf:ti.fields[f]? =some (o,n,ag))(hk:ti.kind = .struct)(hn:Nat.blt 0 n=true)
    (hr:l+o=r) (kk:AD P A G K C (.pure::I) ((d, .ao k z nn j r)::s) H):AD P A G K (⟨some d, .fieldAddr T x f,R,D,S,none⟩::C) I s H:=
  bU rfl (eY λg w a ho=>by
    have h1:=op1 hx We ho;obtain⟨b,oo,e,hj,rr,v,y,q,h6⟩:=h1;refine⟨.pointer (some ⟨b,oo+o,none⟩), ?_,b,oo+o,rfl,hj,rr,v,y,q,λhn=> ?_⟩
    · obtain⟨a6,dd,z,t1,t2,t3,t4,t5,t6,t7,t8,t9,ai,a2,aj,a3⟩:=(eH hT).ex;have hd:∃fs,dd = .struct fs:=by rw[hk]at t3;cases dd<;>first|exact⟨_,rfl⟩|cases t3
      obtain⟨fs,rfl⟩:=hd;rw[<-a2]at hf;simp only[oD,List.getElem?_map,Option.map_eq_some_iff,Prod.mk.injEq]at hf;obtain⟨m,c,rfl,hs,_⟩:=hf;rw[getElem?_toList]at c;have i:=a3 fs rfl m Xw;have a0:(sizeOf m.type).run P w = .ok n w:=by
        unfold sizeOf;cases h:P.info? m.type with
        |none=>rw[h]at i;simp at i
        |some a1=>
          have:P.cellsOf m.type=a1.size:=Ze
          simp only[Sem.run_bind,rW h,Result.andThen];simp_all
      have t:n≠0:=Yc
      simp only[execOp,e,Instr.fieldAt,Sem.run_bind,run_underlying t2,Result.andThen,c,Instr.sureAddr,Sem.run_pure,fieldPlace,a0,if_neg t,eI]
    · obtain⟨l1,p,hp,u,rfl,rfl⟩:=h6 hn;exact⟨l1,p,hp,u,rfl,om⟩) kk
def Jl{g:Gh}{w:World}(f:Inv g H w){n j a:Nat}(h:Aa g w (.ao k z n j a) u)(hT:H.T[k]? =some (.aa xs))(hn:xs.length=n):
    ∃r Vs p,BR g w k z xs r Vs/\r.base=some p/\p.spot=none/\u = .pointer (some ⟨p.block,p.off+j * z+a,none⟩)/\j<Vs.length:=by obtain⟨b,o,rfl,hj,r,hr,hz,i,e⟩:=h;obtain⟨t1,t2,v,Vs,d,l,m,q⟩:=f.tok k _ r hr hT;obtain⟨t,p,hp,c,rfl,rfl⟩:=e (by rw[t1,hn]);subst hz;exact⟨r,Vs,p,⟨hr,rfl,t1,t2,om,d,l,m,q⟩,hp,c,rfl,by rw[d.length,hn];exact hj⟩
def fD{x:Operand}{n j m:Nat}{y v:AV}(hT:ty? P T=some ti)(hx:ev? s x=some (.ao k z n j m))(q:H.T[k]? =some (.aa xs))(hn:xs.length=n)(hy:xs[j]? =some y)
    (hv:kO y (λcs=>cut ti.agg ti.size m cs)=some v) (kk:AD P A G K C (.rt::I) ((d,v)::s) H):AD P A G K (⟨some d, .load T x,R,D,S,none⟩::C) I s H:=
  bU (t := .rt) rfl ⟨rfl,λB=>by intro g w a next Q hI ho a0;have h1:=op1 hx We ho;obtain⟨r,Vs,p,l,hp,a7,e,hj⟩:=Jl (H:=⟨B,H.T⟩) hI h1 q hn;obtain⟨V,hV,hr⟩:=l.a6.get hy;obtain⟨cs,c,hl,f⟩:=jL hv hr;obtain⟨m1,m2⟩:=(l.mem p hp).2 j V hV;obtain⟨W,hW,h⟩:=Mk (P:=P) hT (b:=p.block) (o:=p.off+j * z) hl f (λi u X=>(m2 i u (by rw[<-getElem?_toList];exact X)).2.1) c;unfold Oper.wp;simp only[execOp,e,Instr.loadAt,Instr.sureAddr,Sem.run_bind,Sem.run_pure,Result.andThen];rw[h];exact a0 W w g (eV g w) hI hW⟩ kk
def bC{x y:Operand}{n j off:Nat}{e0 e1 v:AV}{d:TI}{agg:Bool}(hT:ty? P T=some d)(hx:ev? s x=some (.ao k z n j off))(hy:ev? s y=some v)(hf:fits d.agg d.size v=true)(f:H.T[k]? =some (.aa xs))(hn:xs.length=n)
    (he:xs[j]? =some e0) (hz:(agg||Nat.beq z 1)=true) (a0:Nat.blt 0 d.size=true) (hv:kO v (λvs=>kO e0 (λcs=>Ck off vs cs (Ml agg)))=some e1) (a5:jX k (.aa (xs.set j e1)) H.T some=some T')
    (kk:AD P A G K C (.tk::I) s ⟨H.B,T'⟩):AD P A G K (⟨none, .store T x y,R,D,S,none⟩::C) I s H:=
  bU (t := .tk) (v := .undef) (Y:=⟨H.B,T'⟩) rfl ⟨rfl,λB=>by
    intro g w a next Q hI ho aa
    have h1:=op1 hx We ho
    have h2:=op1 hy We ho
    obtain⟨kl,a6⟩:=d7 _ _ _ _ _ a5
    obtain⟨r,Vs,p,b,hp,ac,e,hj⟩:=Jl (H:=⟨B,H.T⟩) hI h1 f hn
    obtain⟨V,hV,hr⟩:=b.a6.get he
    obtain⟨vs,ae,q,ab⟩:=jL hv h2
    obtain⟨cs,af,c,au⟩:=jL ae hr
    obtain⟨an,ag⟩:=tG _ _ _ _ _ af
    obtain⟨f1,_,f3,_⟩:=nJ hf h2
    have a8:=b.size V (mem_of_getElem? hV)
    have ar:cs.length=z:=by rw[<-c.length];simpa using a8
    have ah:vs.length=d.size:=by rw[<-q.length];simpa using f1
    have ad:AM g w (cs.take off++vs++cs.drop (off+vs.length)) (V.cells.toList.take off++(a.eval y).cells.toList++V.cells.toList.drop (off+vs.length)):=((c.take off).append q).append (c.drop _)
    have a1:∀u∈V.cells.toList.take off++(a.eval y).cells.toList++V.cells.toList.drop (off+vs.length),u.oneCell'= true:=WZ
    obtain⟨V', m,a7⟩:=Kt ag ad a1
    have l:V'.cells.size=z:=by
      have:=congrArg List.length m
      grind
    have as:(flat Vs).length=Vs.length * z:=cZ b.size
    have hb:(j+1) * z<=Vs.length * z:=mul_le_mul_right _ om
    rw[succ_mul]at hb
    have am:Vs.length * z<=r.cap * z:=mul_le_mul_right _ (by rw[b.len];exact b.cap)
    have a9:(a.eval y).cells.toList.length=d.size:=by simpa using f1
    have av:0<d.size:=Nat.le_of_ble_eq_true a0
    have o:V.cells.toList=((flat Vs).drop (j * z)).take z:=by
      apply List.ext_getElem?
      intro i
      by_cases X:i<z
      · rw[List.getElem?_take_of_lt X,getElem?_drop,vF b.size hV X]
        simp
      · rw[List.getElem?_eq_none Wl,List.getElem?_eq_none Wl]
    obtain⟨w', g', s1,s2,s3,s4⟩:=Jk (P:=P) (H:=⟨B,H.T⟩) hI b f hp ac (at_:=j * z+off) (cs:=(a.eval y).cells.toList) (ys:=xs.set j e1) (Us:=Vs.set j V')
      (by
        rw[QU b.size hj,m,o,List.take_take,Nat.min_eq_left om,List.drop_take,drop_drop]
        have a2:(flat Vs).take (j * z+off)=(flat Vs).take (j * z)++((flat Vs).drop (j * z)).take off:=by rw[<-List.take_add]
        have a3:(flat Vs).drop (j * z+off+(a.eval y).cells.toList.length)=((flat Vs).drop (j * z+(off+vs.length))).take (z-(off+vs.length))++(flat Vs).drop ((j+1) * z):=by
          have h:=(List.take_append_drop (z-(off+vs.length)) ((flat Vs).drop (j * z+(off+vs.length)))).symm
          rw[drop_drop,show j * z+(off+vs.length)+(z-(off+vs.length))=(j+1) * z by rw[succ_mul];omega]at h
          rw[a9, <-ah,add_assoc]
          exact h
        rw[a2,a3]
        simp only[List.append_assoc])
      om om om ab (b.a6.set j a7) (λU hU=>by
        rcases List.mem_or_eq_of_mem_set hU with h|rfl
        · exact b.size U h
        · exact l) Wb (by rw[List.length_set];exact b.cap)
    unfold Oper.wp
    simp only[execOp,e,Instr.storeAt,Instr.sureAddr,storeVar,Sem.run_bind,Sem.run_pure,Result.andThen,dA hT,f1,ne_eq,not_true_eq_false,if_false]
    rw[add_assoc,s1]
    refine aa undef w' g' s2 ?_ trivial
    rw[show (⟨H.B,T'⟩:St).T=T' from rfl, <-Option.some.inj a6]
    exact s3⟩ kk
def jE{x:Operand}{m:Nat}{h:TI}(hT:ty? P T=some h)(hk:h.kind = .slice)(hx:ev? s x=some (.aa k z m lo X))(hn:((X-lo:Nat):Int)=n)
    (l:AD P A G K C (.pure::I) ((d, .int .i64 n)::s) H):AD P A G K (⟨some d, .call ⟨.builtin .len, #[x], #[T]⟩,R,D,S,none⟩::C) I s H:=
  bU rfl (eY λg w a j=>by
    obtain⟨o,cap,e,_⟩:=op1 hx Wm j;refine⟨.int .i64 (X-lo:Nat), ?_,by rw[hn];rfl⟩;obtain⟨c,b,z,t1,t2,f,_⟩:=(eH hT).ex;have i:∃e,b = .slice e:=WM
    obtain⟨p,rfl⟩:=i;simp[execOp,resolve,invoke,builtin,Builtin.len_,e,run_underlying t2,goInt,Result.andThen]) l
end rules
section rules
variable {P:Program} [Lay P] {A:Array Oper} {G:Bool} {K:AX->AE->St->Prop} {C:List Oper} {I:List Aj} {s:AE} {H:St}
variable {d:Tmp} {R:TypeId} {D:String} {S:Array Edge}
omit [Lay P] in
def nO{y:Operand}{nh b:Int}{h m:Nat}{c:BoundsCode}{g:Gh}{w:World}{a:Act}(f:bnd? s (some y) b=some nh)(eh:nh=(h:Int))(k:h<=m)(e:Aa g w (ev s y) (a.eval y)):(Instr.sliceBound (a.eval y) m c).run P w = .ok h w:=by
  obtain⟨j,i⟩:=Fy f;rw[pW i]at e;have d:a.eval y = .int j nh:=e;have hb:0<=(h:Int)/\(h:Int)<=(m:Int):=om
  simp only[Instr.sliceBound,d,asIntOf,eh,Sem.run_bind,Sem.run_pure,Result.andThen];simp_all
def FO{x:Operand}{lo X:Option Operand}{n l0 h0:Nat}{nl:Int}{t:TI}(l h:Nat){rl rh:Nat}(hT:ty? P T=some t)(hk:t.kind = .slice)(hE:ty? P t.elem=some te)(hz:Nat.beq te.size z=true)
    (hx:ev? s x=some (.aa k z n l0 h0)) (hl:bnd? s lo 0=some nl) (hh:bnd? s X ((h0-l0:Nat):Int)=some nh) (el:nl=(l:Int)) (eh:nh=(h:Int)) (h1:l<=h) (h2:h<=n-l0) (er:l0+l=rl) (v:l0+h=rh)
    (kk:AD P A G K C (.pure::I) ((d, .aa k z n rl rh)::s) H):AD P A G K (⟨some d, .slice T x lo X none,R,D,S,none⟩::C) I s H:=
  bU rfl (eY λg w a ho=>by
    obtain⟨a0,cap,e,c1,c2,c3,c4,c5,rr,a8,a9,a4,h6⟩:=op1 hx We ho
    obtain⟨ah,dd,z0,t1,t2,t3,t4,_⟩:=(eH hT).ex
    have hd:∃e,dd = .slice e:=Wk
    obtain⟨a1,rfl⟩:=hd
    have a2:a1=t.elem:=t4
    subst a2
    have aa:te.size=z:=eq_of_beq_eq_true hz
    have q:(execOp a.eval ⟨some d, .slice T x lo X none,R,D,S,none⟩).run P w = .ok (.value (.slice (if cap-l0=l then a0 else a0.map (·.add (l * z))) (h-l) (cap-l0-l))) w:=by
      have j:∀y,X=some y->(Instr.sliceBound (a.eval y) (cap-l0) .sliceAcap).run P w = .ok h w:=by
        intro y f
        subst f
        exact nO hh eh om (ho y We)
      have a5:∀y,lo=some y->(Instr.sliceBound (a.eval y) h .sliceB).run P w = .ok l w:=by
        intro y f
        subst f
        exact nO hl el h1 (ho y We)
      have a3:lo=none->l=0:=by
        intro u
        subst u
        have:(0:Int)=nl:=Option.some.inj hl
        omega
      have i:X=none->h=h0-l0:=by
        intro u
        subst u
        have:((h0-l0:Nat):Int)=nh:=Option.some.inj hh
        omega
      rw[<-aa]
      cases lo with
      |none=>
        have m:=a3 rfl
        subst m
        cases X with
        |none=>
          have c:=i rfl
          subst c
          simp[execOp,e,Instr.sliceAt,run_underlying t2,Result.andThen,Instr.slice,Instr.sliceBounds,dA hE]
        |some y=>
          have:=j y rfl
          simp[execOp,e,Instr.sliceAt,run_underlying t2,Result.andThen,Instr.slice,Instr.sliceBounds,dA hE,this]
      |some zz=>
        have r:=a5 zz rfl
        cases X with
        |none=>
          have c:=i rfl
          subst c
          simp[execOp,e,Instr.sliceAt,run_underlying t2,Result.andThen,Instr.slice,Instr.sliceBounds,dA hE,r]
        |some y=>
          have:=j y rfl
          simp[execOp,e,Instr.sliceAt,run_underlying t2,Result.andThen,Instr.slice,Instr.sliceBounds,dA hE,r,this]
    refine⟨_,q,_,cap,by rw[<-er, <-v];congr 1<;>omega,om,om,c3,c4,λO=> ?_,rr,a8,a9,a4,λhn=> ?_⟩
    · obtain⟨b,o,rfl⟩:=c5 om
      rw[if_neg om]
      exact⟨b,o+l * z,by simp[eI]⟩
    · obtain⟨l1,l2,l3⟩:=h6 hn
      refine⟨l1,l2,λO=> ?_⟩
      obtain⟨p,hp,a7,rfl⟩:=l3 om
      rw[if_neg om]
      refine⟨p,hp,a7, ?_⟩
      simp only[Option.map_some,eI,Option.some.injEq,Addr.mk.injEq,true_and,and_true]
      rw[<-er,add_mul]
      omega) kk
def QV{x lo X p:Operand}{n o h0:Nat}{v u nm:Int}{f:TI}(l h m:Nat)(hT:ty? P T=some f)(hk:f.kind = .slice)(hE:ty? P f.elem=some te)
    (hx:ev? s x=some (.aa k z n o h0)) (hl:bnd? s (some lo) 0=some v) (hh:bnd? s (some X) 0=some u) (hm:bnd? s (some p) 0=some nm) (el:v=(l:Int)) (eh:u=(h:Int)) (em:nm=(m:Int)) (h1:l<=h) (h2:h<=m) (h3:m<=h0-o)
    (kk:AD P A G K C (.pure::I) ((d, .undef)::s) H):AD P A G K (⟨some d, .slice T x (some lo) (some X) (some p),R,D,S,none⟩::C) I s H:=
  bU rfl (eY λg w a b=>by
    obtain⟨q,cap,e,c1,c2,c3,c4,c5,rr,ae,af,ac,h6⟩:=op1 hx We b
    obtain⟨t,r,z0,t1,t2,y,t4,_⟩:=(eH hT).ex
    have hd:∃e,r = .slice e:=by rw[hk]at y;cases r<;>first|exact⟨_,rfl⟩|cases y
    obtain⟨i,rfl⟩:=hd
    have j:i=f.elem:=t4
    subst j
    have b1:=nO (P:=P) (w:=w) (a:=a) (c := .slice3Acap) hm em (show m<=cap-o by omega) (b p We)
    have b2:=nO (P:=P) (w:=w) (a:=a) (c := .slice3B) hh eh h2 (b X We)
    have b3:=nO (P:=P) (w:=w) (a:=a) (c := .slice3C) hl el h1 (b lo We)
    refine⟨.slice (if m=l then q else q.map (·.add (l * te.size))) (h-l) (m-l), ?_,trivial⟩
    simp[execOp,e,Instr.sliceAt,run_underlying t2,Result.andThen,Instr.slice,Instr.sliceBounds,dA hE,b1,b2,b3]) kk
def QW{x y:Operand}{n i j m:Nat}(hT:ty? P T=some ti)(hk:ti.kind = .slice)(hE:ty? P ti.elem=some te)(hz:Nat.beq te.size z=true)(b2:Nat.blt 0 z=true)
    (hx:ev? s x=some (.aa k z n 0 i)) (hy:ev? s y=some (.aa k z n j n)) (u:H.T[k]? =some (.aa xs)) (hn:xs.length=n) (bt:i<=j) (bu:j<=n) (hm:i+(n-j)=m) (ao:jX k (.aa (xs.take i++xs.drop j++xs.drop m)) H.T some=some T')
    (kk:AD P A G K C (.tk::I) ((d, .aa k z n 0 m)::s) ⟨H.B,T'⟩):AD P A G K (⟨some d, .call ⟨.builtin .append, #[x,y], #[T,T]⟩,R,D,S,none⟩::C) I s H:=
  bU (t := .tk) (Y:=⟨H.B,T'⟩) rfl ⟨rfl,λB=>by
    intro g w a next Q hI ho a9
    subst hm
    have h1:=op1 hx Wm ho
    have h2:=op1 hy Wm ho
    obtain⟨kl,a5⟩:=d7 _ _ _ _ _ ao
    have h:te.size=z:=eq_of_beq_eq_true hz
    have b3:0<z:=Nat.le_of_ble_eq_true b2
    obtain⟨r,Vs,b⟩:=FL (H:=⟨B,H.T⟩) hI h1 u hn
    have b0:Vs.length=n:=by rw[b.len,hn]
    obtain⟨a0,cap,e0,_,_,c3,c4,c5,r0,ad,ae,av,h6⟩:=h1
    have:r0=r:=Option.some.inj (ad.symm.trans b.hr)
    subst this
    obtain⟨l1,l2,l3⟩:=h6 (by rw[b.n,hn])
    obtain⟨a1,cap1,e1,_,_,d3,d4,d5,r1,ay,bj,bg,k6⟩:=h2
    have:r1=r0:=Option.some.inj (ay.symm.trans b.hr)
    subst this
    obtain⟨m1,m2,m3⟩:=k6 (by rw[b.n,hn])
    have aq:cap1=cap:=by rw[<-m2, <-l2]
    subst aq
    simp only[Nat.sub_zero,Nat.zero_mul,Nat.add_zero]at e0 c5 l3
    obtain⟨bk,dd,z0,t1,t2,t3,t4,_⟩:=(eH hT).ex
    have hd:∃e,dd = .slice e:=Wk
    obtain⟨el,rfl⟩:=hd
    have ar:el=ti.elem:=t4
    subst ar
    obtain⟨ie,de,ze,u1,u2,u3,u4,u5,u6,u7,u8,u9,ce,cf,cg,ch⟩:=(eH hE).ex
    have a3:i+(n-j)<=cap1:=om
    by_cases a7:j=n
    · -- nothing is moved
      subst a7
      have am:a.eval y = .slice a1 0 (cap1-j):=by rw[e1,Nat.sub_self]
      have a2:(Builtin.firstCells ie.size 0 (.slice a1 0 (cap1-j))).run P w = .ok #[] w:=by
        cases a1<;>simp[Builtin.firstCells,loadCells,loadCellsFrom]
      have au:i<=cap1:=om
      have f:(Builtin.append_ #[T,T] R #[a.eval x,a.eval y]).run P w = .ok (.slice a0 i cap1) w:=by
        rw[e0,am]
        cases a0<;>simp[Builtin.append_,run_underlying t2,sizeOf,typeInfo,u1,Builtin.lenOf,au,a2,storeCells]
      unfold Oper.wp
      rw[j8 f]
      have hsame:xs.take i++xs.drop j++xs.drop (i+(j-j))=xs:=by
        rw[List.drop_eq_nil_of_le (show xs.length<=j by omega),List.append_nil,Nat.sub_self,Nat.add_zero,List.take_append_drop]
      refine a9 _ w g (eV g w) ?_ ⟨a0,cap1,(by rw[Nat.sub_self];rfl),zero_le _,om,c3,c4,c5,r1,ad,ae,av,λbw=>⟨l1,l2,λO=>by simpa using l3 O⟩⟩
      rw[show (⟨H.B,T'⟩:St).T=T' from rfl, <-Option.some.inj a5,hsame,FM u]
      exact hI
    · obtain⟨p,hp,ac,aw⟩:=l3 om
      obtain⟨q,hq,bz,ax⟩:=m3 om
      have:q=p:=Option.some.inj (hq.symm.trans hp)
      subst this
      subst aw;subst ax
      have a8:=(b.mem _ hp).2
      have as:flat (Vs.drop j)=(flat Vs).drop (j * z):=rU j b.size
      have o:(flat (Vs.drop j)).length=(n-j) * ie.size:=by
        rw[cZ (sz:=z) (λV l=>b.size V (List.mem_of_mem_drop l)),List.length_drop,b0,u6,h]
      have c:∀(jj:Nat) (v:Value),(flat (Vs.drop j))[jj]? =some v->w.cell? ((⟨q.block,q.off+j * z,none⟩:Addr).add jj)=some v/\v.oneCell'= true:=λjj v hj=>by
        rw[as,getElem?_drop]at hj
        obtain⟨_,f2,f3⟩:=a8.flat hj
        rw[eI,add_assoc]
        exact⟨f2,f3⟩
      have aa:∀v∈flat (Vs.drop j),v.oneCell'= true:=λv b=>by
        obtain⟨jj,hj⟩:=List.getElem?_of_mem b
        exact(c jj v hj).2
      have a2:=run_firstCells_some (P:=P) w ie.size (n-j) ⟨q.block,q.off+j * z,none⟩ (n-j) (cap1-j) (flat (Vs.drop j)) o (λjj v hj=>(c jj v hj).1)
      have ab:0<(flat (Vs.drop j)).length:=by rw[o,u6,h];exact Nat.mul_pos om b3
      have bh:i * z+(n-j) * z<=n * z:=by rw[<-add_mul];exact mul_le_mul_right _ om
      have ap:n * z<=r1.cap * z:=mul_le_mul_right _ om
      have az:∀V∈Vs.take i++Vs.drop j++Vs.drop (i+(n-j)),V.cells.size=z:=λV l=>by
        simp only[mem_append]at l
        rcases l with (l|l)|l
        · exact b.size V (List.mem_of_mem_take l)
        · exact b.size V (List.mem_of_mem_drop l)
        · exact b.size V (List.mem_of_mem_drop l)
      have b1:(xs.take i++xs.drop j++xs.drop (i+(n-j))).length=n:=Wl
      obtain⟨w', g', s1,s2,s3,s4⟩:=Jk (P:=P) (H:=⟨B,H.T⟩) hI b u hp ac (at_:=i * z) (cs:=flat (Vs.drop j)) (ys:=xs.take i++xs.drop j++xs.drop (i+(n-j))) (Us:=Vs.take i++Vs.drop j++Vs.drop (i+(n-j)))
        (by
          rw[gU,gU,xR i b.size,rU (i+(n-j)) b.size,o,u6,h,add_mul])
        (by rw[b.cq,hn];omega) (by rw[o,u6,h];omega) ab aa (((b.a6.take i).append (b.a6.drop j)).append (b.a6.drop _)) az om om
      have a6:(⟨q.block,q.off,none⟩:Addr).add (i * ie.size)=⟨q.block,q.off+i * z,none⟩:=by rw[eI,u6,h]
      have f:(Builtin.append_ #[T,T] R #[a.eval x,a.eval y]).run P w = .ok (.slice (some ⟨q.block,q.off,none⟩) (i+(n-j)) cap1) w':= by
        rw[e0,e1]
        simp[Builtin.append_,run_underlying t2,sizeOf,typeInfo,u1,Builtin.lenOf,a3,a2,a6,s1]
      unfold Oper.wp
      rw[j8 f]
      refine a9 _ w' g' s2 ?_ ⟨some ⟨q.block,q.off,none⟩,cap1,rfl,zero_le _,om,c3,c4,(λ_=>⟨_,_,rfl⟩),{ r1 with n:=(xs.take i++xs.drop j++xs.drop (i+(n-j))).length },s4,ae,Nat.le_of_eq b1.symm,λ_=>⟨b.lo,l2,λ_=>⟨q,hp,ac,by rw[Nat.zero_mul];rfl⟩⟩⟩
      rw[show (⟨H.B,T'⟩:St).T=T' from rfl, <-Option.some.inj a5]
      exact s3⟩ kk
def QX{x:Operand}{n:Nat}{j:TI}(hT:ty? P T=some ti)(hk:ti.kind = .slice)(hE:ty? P ti.elem=some j)(hz:Nat.beq j.size z=true)(ai:Nat.blt 0 z=true)
    (hx:ev? s x=some (.aa k z n lo X)) (l:H.T[k]? =some (.aa xs)) (hn:xs.length=n) (a7:jX k (.aa (xs.take lo++List.replicate (X-lo) j.zero++xs.drop X)) H.T some=some T')
    (kk:AD P A G K C (.tk::I) s ⟨H.B,T'⟩):AD P A G K (⟨none, .call ⟨.builtin .clear, #[x], #[T]⟩,R,D,S,none⟩::C) I s H:=
  bU (t := .tk) (v := .undef) (Y:=⟨H.B,T'⟩) rfl ⟨rfl,λB=>by
    intro g w a next Q hI ho y
    have h1:=op1 hx Wm ho
    obtain⟨kl,o⟩:=d7 _ _ _ _ _ a7
    have a3:j.size=z:=eq_of_beq_eq_true hz
    have al:0<z:=Nat.le_of_ble_eq_true ai
    obtain⟨r,Vs,f⟩:=FL (H:=⟨B,H.T⟩) hI h1 l hn
    obtain⟨a0,cap,e0,c1,c2,c3,c4,c5,r0,ad,b4,b1,h6⟩:=h1
    have:r0=r:=Option.some.inj (ad.symm.trans f.hr)
    subst this
    obtain⟨l1,l2,l3⟩:=h6 (by rw[f.n,hn])
    obtain⟨ar,dd,z0,t1,t2,t3,t4,_⟩:=(eH hT).ex
    have hd:∃e,dd = .slice e:=Wk
    obtain⟨el,rfl⟩:=hd
    have a9:el=ti.elem:=t4
    subst a9
    have a1:∀ {w': World},(Builtin.clear_ #[T] R #[a.eval x]).run P w = .ok (.tuple #[]) w'->
        (execOp a.eval ⟨none, .call ⟨.builtin .clear, #[x], #[T]⟩,R,D,S,none⟩).run P w = .ok (.value (.tuple #[])) w':= by
      intro w' h
      have u:Array.map a.eval #[x] = #[a.eval x]:=Wb
      simp only[execOp,resolve,Sem.run_bind,Sem.run_pure,Result.andThen,invoke,builtin,u,h]
    by_cases q:X-lo=0
    · have d:(Builtin.clear_ #[T] R #[a.eval x]).run P w = .ok (.tuple #[]) w:=by
        rw[e0,q]
        cases a0<;>simp[Builtin.clear_,run_underlying t2]
      unfold Oper.wp
      rw[a1 d]
      refine y _ w g (eV g w) ?_ trivial
      have hsame:xs.take lo++List.replicate (X-lo) j.zero++xs.drop X=xs:=by
        rw[q,show X=lo by omega];simp
      rw[show (⟨H.B,T'⟩:St).T=T' from rfl, <-Option.some.inj o,hsame,FM l]
      exact hI
    · obtain⟨p,hp,ac,rfl⟩:=l3 om
      obtain⟨zv,am,aj,a4,ak⟩:=nP hE w
      have af:Aa g w j.zero zv:=by rw[<-aj];exact kM g w zv
      have aa:flat (List.replicate (X-lo) zv)=(Builtin.zeroCells zv.cells (X-lo)).toList:=FN zv _
      have c:(flat (List.replicate (X-lo) zv)).length=(X-lo) * z:=by
        rw[cZ (sz:=z) (λV b=>by rw[(List.mem_replicate.1 b).2,a4,a3]),List.length_replicate]
      have ag:∀V∈Vs.take lo++List.replicate (X-lo) zv++Vs.drop X,V.cells.size=z:=λV b=>by
        simp only[mem_append]at b
        rcases b with (b|b)|b
        · exact f.size V (List.mem_of_mem_take b)
        · rw[(List.mem_replicate.1 b).2,a4,a3]
        · exact f.size V (List.mem_of_mem_drop b)
      have ae:∀m:Nat,AM g w (List.replicate m j.zero) (List.replicate m zv):=by
        intro m
        induction m with
        |zero=>exact rfl
        |succ m E=>exact⟨zv,_,rfl,af,E⟩
      have b3:(xs.take lo++List.replicate (X-lo) j.zero++xs.drop X).length=n:=Wl
      have i:X * z=lo * z+(X-lo) * z:=by rw[<-add_mul];congr 1;omega
      have hb:X * z<=n * z:=mul_le_mul_right _ c2
      have a8:n * z<=r0.cap * z:=mul_le_mul_right _ om
      obtain⟨w', g', s1,s2,s3,s4⟩:=Jk (P:=P) (H:=⟨B,H.T⟩) hI f l hp ac (at_:=lo * z) (cs:=flat (List.replicate (X-lo) zv)) (ys:=xs.take lo++List.replicate (X-lo) j.zero++xs.drop X) (Us:=Vs.take lo++List.replicate (X-lo) zv++Vs.drop X)
        (by rw[gU,gU,xR lo f.size,rU X f.size,c, <-i])
        (by rw[f.cq,hn];omega) (by rw[c];omega) (by rw[c];exact Nat.mul_pos om al) (λv ah=>by
          obtain⟨V,b,a2⟩:=List.mem_flatMap.1 ah
          rw[(List.mem_replicate.1 b).2]at a2
          exact ak v a2) (((f.a6.take lo).append (ae _)).append (f.a6.drop _)) ag om om
      have d:(Builtin.clear_ #[T] R #[a.eval x]).run P w = .ok (.tuple #[]) w':= by
        obtain⟨mm,ab⟩:∃mm,X-lo=mm+1:=⟨X-lo-1,om⟩
        rw[e0]
        rw[aa]at s1
        rw[ab]at s1 ⊢
        simp[Builtin.clear_,run_underlying t2,am,s1]
      unfold Oper.wp
      rw[a1 d]
      refine y _ w' g' s2 ?_ trivial
      rw[show (⟨H.B,T'⟩:St).T=T' from rfl, <-Option.some.inj o]
      exact s3⟩ kk
end rules
def AK(H:St)(x:AV)(Y:St)(y:AV):Prop:=∀(g:Gh) (w:World) (v:Value),Inv g H w->Aa g w x v->∃g', Ar g w g' w/\Inv g' Y w/\Aa g' w y v
def eM(H:St)(x:AV):AK H x H x:=λg w v X h=>⟨g,eV g w,X,h⟩
theorem AK.a7{H:St}(h:AC x y):AK H x H y:=λg w v X hr=>⟨g,eV g w,X,h g w v hr⟩
theorem AK.trans{H a b:St}{z:AV}(h:AK H x a y)(k:AK a y b z):AK H x b z:=λg w v X hr=>by obtain⟨d,e1,f,j⟩:=h g w v X hr;obtain⟨e,c,i,l⟩:=k d w v f j;exact⟨e,e1.trans c,i,l⟩
def cA{H:St}{n:Nat}(hT:H.T[k]? =some (.aa xs))(hn:xs.length=n)(a:jX k (.len (n+1)) H.T some=some T'):
    AK H (.aa k z n lo X) ⟨H.B,T'⟩ (.slice ((xs.take X).drop lo) .no):=λg w v b hr=>by
  obtain⟨f,c⟩:=d7 _ _ _ _ _ a;obtain⟨g', e1,d,e⟩:=Mj b hr hT hn;grind
def kA{H:St}(ht:t.fresh=true)(hk:dN H.T=some k)(a:kP H.T (.aa []) some=some T'):AK H (.slice [] t) ⟨H.B,T'⟩ (.aa k z 0 0 0):=λg w v X hr=>by obtain⟨g', e1,c,b⟩:=FK (z:=z) X ht hr;rw[dI hk]at b;refine⟨g', e1, ?_,b⟩;have:H.T++[Tok.aa []]=T':= Option.some.inj (eQ _ _ _ _ a);simp_all
def cV{H:St}{i c:Nat}{cs:List AV}{z0:AV}{T1 T': List Tok}(hT:H.T[k]? =some (.aa xs))(X:xs[i]? =some (.agg cs))(O:cs[c]? =some x)(h:AK H x ⟨H.B,T1⟩ y)(a9:T1[k]? =some (.aa xs))(a8:jX k (.aa (xs.set i (.agg (cs.set c y)))) T1 some=some T'):
    AK H z0 ⟨H.B,T'⟩ z0:=λg w v hI hr=>by
  obtain⟨kl,aa⟩:=d7 _ _ _ _ _ a8;have ab:k<g.tk.length:=by rw[hI.lenT];exact(List.getElem?_eq_some_iff.1 hT).1
  have a0:g.tk[k]? =some g.tk[k]:=List.getElem?_eq_getElem ab;obtain⟨t1,t2,t3,Vs,t4,t5,t6,t7⟩:=hI.tok k _ _ a0 hT;obtain⟨V,hV,a7⟩:=t4.get X;obtain⟨J,rfl,hl,ag⟩:=a7;obtain⟨u,hu,ad⟩:=hl.get O;obtain⟨g1,e1,a,r1⟩:=h g w u hI ad;refine⟨g1,e1, ?_,Aa.mono e1.le _ _ hr⟩;rw[<-Option.some.inj aa];refine⟨a.lenB,by simpa using a.lenT,a.ob,a.nodup,a.noim,λj t r hj ht=> ?_,a.tkz,a.tkd,a.imlt,a.gl⟩;by_cases e:j=k
  · subst e;simp only[List.getElem?_set_self kl,Option.some.injEq]at ht;subst ht;obtain⟨s1,s2,s3,Ws,s4,s5,s6,s7⟩:=a.tok j _ r hj a9;have hsame:∀(p:Addr),r.base=some p->Ws[i]? =some (.agg J):=by
      intro p hp;obtain⟨r', z,hh⟩:=e1.le.tk j _ a0;rw[hj]at z;cases z;have ac:r=g.tk[j]:=Xu
      subst ac;have f:i<Ws.length:=by rw[s4.length];exact(List.getElem?_eq_some_iff.1 X).1
      obtain⟨m1,m2⟩:=(t7 p hp).2 i _ hV;obtain⟨n1,n2⟩:=(s7 p hp).2 i _ (List.getElem?_eq_getElem f);obtain⟨W,hW,d⟩:=s4.get X;rw[List.getElem?_eq_getElem f]at hW;cases hW;obtain⟨ws,b,n,o⟩:=d;rw[List.getElem?_eq_getElem f,b];rw[b]at n1 n2;congr 2;apply Array.ext_getElem?;intro q;have a4:ws.size=J.size:=by have h1:(Value.agg ws).cells.size=(Value.agg J).cells.size:=n1.trans m1.symm;exact h1
      by_cases l:q<J.size
      · have a1:=(m2 q J[q] (by simp[Value.cells,l])).2.1;have a2:=(n2 q ws[q] (by simp[Value.cells,a4▸l])).2.1;rw[a1]at a2;rw[Array.getElem?_eq_getElem l,Array.getElem?_eq_getElem (a4▸l)];exact a2.symm
      · rw[Array.getElem?_eq_none om,Array.getElem?_eq_none om]
    cases hb:r.base with
    |none=>have:=s5 hb;subst this;have h0:=s4.length;have:i<xs.length:=(List.getElem?_eq_some_iff.1 X).1;simp at h0;omega
    |some p=>
      have m:=hsame p hb;obtain⟨W,hW,d⟩:=s4.get X;rw[m]at hW;cases hW;obtain⟨ws,b,n,o⟩:=d;cases b;have a3:Aa g1 w (.agg (cs.set c y)) (.agg J):=⟨J,rfl,by have:=n.set c r1;rwa [rQ hu]at this,o⟩;refine⟨by simpa using s1,s2,s3,Ws, ?_,(λh=>by rw[hb]at h;cases h),s6,λq l=> ?_⟩
      · have:=s4.set i a3;rwa [rQ m]at this
      · rw[hb]at l;cases l;exact s7 p hb
  · rw[List.getElem?_set_ne (Ne.symm e)]at ht;exact a.tok j t r hj ht
section
variable {P:Program} {N:Nat} {D:List Deferred} {c:Code} {K:AX->AE->St->Prop} {s:AE} {H:St}
def b8(b:Nat)(hx:lk? s b=some x)(h:AK H x Y y)(k:AB P N D c K ((b,y)::s) Y):AB P N D c K s H:=λg w a X hs ha l=>by
  have d:=hs b;rw[gY hx]at d;obtain⟨j,e1,f,i⟩:=h g w _ X d;refine wp_mono (k j w a f (λu=> ?_) ha l) λ_ _ _ hp=>hp.trans e1
  unfold lk;cases e:Nat.beq b u with
  |true=>have:=eq_of_beq_eq_true e;subst this;exact i
  |false=>exact Aa.mono e1.le _ _ (hs u)
def fV(i j:Nat){cs:List AV}{T1:List Tok}{B': List Ob}(m:H.B[i]? =some (.cells cs))(hx:cs[j]? =some x)(ht:AK H x ⟨H.B,T1⟩ y)(n:H.B.set i (.cells (cs.set j y))=B')(h:AB P N D c K s ⟨B', T1⟩):AB P N D c K s H:=λg w a X hs ha hd=>by
  have o:i<g.bx.length:=by rw[X.lenB];exact(List.getElem?_eq_some_iff.1 m).1
  have hb:g.bx[i]? =some g.bx[i]:=List.getElem?_eq_getElem o;obtain⟨J,R,v,q2,q3⟩:=X.ob i _ _ hb m;obtain⟨u,hu,hr⟩:=q2.get hx;obtain⟨q,e1,b,e3⟩:=ht g w u X hr;have hI:Inv q ⟨B', T1⟩ w:=by
    refine⟨by rw[b.lenB, <-n];simp,b.lenT,λr z f k h2=> ?_,b.nodup,b.noim,b.tok,b.tkz,b.tkd,b.imlt,b.gl⟩;by_cases e:i=r
    · subst e;have d:=e1.le.bx _ _ hb;rw[d]at k;cases k;have l:f = .cells (cs.set j y):=by grind
      subst l;obtain⟨p,a7,t,p2,p3⟩:=b.ob i _ _ d m;rw[v]at t;cases t;refine⟨J,R,v, ?_,q3⟩;have:=AM.set j p2 e3;rwa [rQ hu]at this
    · refine b.ob r z f k ?_;grind
  exact wp_mono (h q w a hI (λu=>Aa.mono e1.le _ _ (hs u)) ha hd) λ_ _ _ hp=>hp.trans e1
def FP{c:Code}(I:Nat->AE->St->Prop){n:Nat}(v:Sub s0 s)(h0:I n s0 H)
    (d:∀n f b,I n f b->AB P N D c (thn (λs' Y=>∃m,m<n/\∃i nB mT,b.B.length<=nB/\b.T.length<=mT/\Sub i s'/\ aM nB mT i=true/\aQ nB mT (Y.B.take nB)=true/\aL nB mT (Y.T.take mT)=true/\
      I m i ⟨Y.B.take nB,Y.T.take mT⟩) K) f b):AB P N D (.loop c) K s H:=λg w a X hr ha r=>by
  refine Ei (λn j w'=> ∃f b h,I n f b/\Ar g w h w'/\ Inv h b w'/\ A3 h w' f j.tmps/\j.tmps.size=N/\j.defers=D) ?_ (n:=n) ⟨s0,H,g,h0,eV g w,X,v.a6 hr,ha,r⟩;rintro n a w1 ⟨f,b,h,hI,hx,X,hr,ha,r⟩;have a0:=X.lenB;have a4:=X.lenT;refine wp_mono (d n f b hI h w1 a X hr ha r) ?_;rintro e j w' ⟨z,s', Y,g', e1,e2,e3,e4,e5,e6,e7⟩;cases z with
  |normal=>cases (show e = .normal from e1);obtain⟨m,hm,i,nB,mT,a3,a2,y,q,o,p,k⟩:=e7;exact⟨m,hm,i,_,_,k,hx.trans (rN e4 om om),pK e5 o p,λt=>Aa.ab _ _ (rM q t) (y.a6 e6 t),e2,e3⟩
  |exit id=>cases (show e = .exit id from e1);exact⟨.exit id,s', Y,g', rfl,e2,e3,hx.trans e4,e5,e6,e7⟩
  |goto l=>cases (show e = .goto l from e1);exact⟨.goto l,s', Y,g', rfl,e2,e3,hx.trans e4,e5,e6,e7⟩
  |ret=>cases (show e = .ret from e1);exact⟨.ret,s', Y,g', rfl,e2,e3,hx.trans e4,e5,e6,e7⟩
  |pan x=>obtain⟨u,rfl,hu⟩:=e1;exact⟨.pan x,s', Y,g', ⟨u,rfl,hu⟩,e2,e3,hx.trans e4,e5,e6,e7⟩
def jF{args:List AV}{r:AV}(O:r.K=true)(ha:aA args=true)(h:AI P f args ⟨[],[]⟩ (λe H=>∃v Y,e = .ret v/\AK H v Y r)):AN P f args r:=by
  refine⟨h.1,ha,λim w J d c m=> ?_⟩;have X:Inv ⟨[],[],im⟩ ⟨[],[]⟩ w:=⟨rfl,rfl,λi b ob h=>Wp,List.nodup_nil,λb h=>Wp,λk t r h=>Wp,λk r h=>Wp,
    λk z r r' _ h=>Wp,d,c⟩
  refine(h.2 _ w J X m).mono ?_;rintro e w' ⟨g', Y,x,h1,h2,h3,v,σ2,rfl,hw⟩;obtain⟨u,rfl,n⟩:=h3;obtain⟨l,o,p,q⟩:=hw g' w' u h2 n;have a:=h1.trans o;obtain⟨j,y,g⟩:=l;refine⟨g,⟨⟨a.le.im,λi b h=>Wp,λk r h=>Wp⟩,a.size,a.os,a.tape,a.output,a.fr,a.frc,a.newim,λb h=>Wp,λk r h=>Wp⟩,p.imlt,u,rfl,oB r u O q⟩
end
end Go.Av
