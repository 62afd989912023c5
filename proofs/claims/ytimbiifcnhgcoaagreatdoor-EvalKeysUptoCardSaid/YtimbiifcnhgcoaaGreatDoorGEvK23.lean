/- Joined texts. -/
import Derived.Test.YtimbiifcnhgcoaaGreatDoorGEvK21
set_option maxRecDepth 100000
set_option maxHeartbeats 16000000
set_option linter.all false
open List (drop_eq_nil_of_le drop_zero getElem_mem length_append length_map map_append map_set set_set take_length take_of_length_le)
open Nat (le_refl sub_self zero_add zero_le)
open Go Go.Av Go.Proofs.YtimbiifcnhgcoaaGreatDoor Go.Proofs.Tryz
variable{g h:Gs}{k:Nat}
namespace Go.Av
open Go
section rules
variable [AL] {P:Program} [Lay P] {A:Array Oper} {G:Bool} {K:AX->AE->St->Prop} {C:List Oper} {I:List Aj} {s:AE} {H:St}
variable {d:Tmp} {R:TypeId} {D:String} {S:Array Edge}
def HG{T:TypeId}{len k z:Nat}{f:Array (Nat×Operand)}{q c:TI}{xs:List AV}{T': List Tok}(hT:ty? P T=some q)(hk:q.kind = .slice)(hE:ty? P q.elem=some c)(hz:c.size=z)(a1:(c.agg||Nat.beq c.size 1)=true)(y:Nat.ble (len * c.size) 16777216=true)(aa:Nat.ble len 16777216=true)
  (hv:Eg (λi=>some (i * c.size,c.size)) s f.toList (List.replicate (len * c.size) .undef) (λcs=>Dt c.agg c.size len cs λxs=>some (AV.slice xs .full))=some (AV.slice xs .full))
  (am:dN H.T=some k) (ai:kP H.T (.aa xs) some=some T')
  (kk:AD P A G K C (.tk::I) ((d, .aa k z len 0 len)::s) ⟨H.B,T'⟩):AD P A G K (⟨some d, .buildSlice T len f,R,D,S,none⟩::C) I s H:=
 bU (t := .tk) (Y:=⟨H.B,T'⟩) rfl ⟨rfl,λB=>by
  intro g w a next Q hI ho hn
  subst hz
  obtain⟨b0,dd,z0,t1,t2,t3,t4,_⟩:=(eH hT).ex
  have hd:∃e,dd = .slice e:=Wk
  obtain⟨el,rfl⟩:=hd
  have al:el=q.elem:=t4
  subst al
  obtain⟨z,hz,bf,ar,zz⟩:=nP hE w
  let z': Array Value:=if len * c.size=0 then #[] else z.cells
  let c0:Array Value:=(Array.range (len * c.size)).map (λi=>z'[i % z'.size]!)
  have ak:∀u∈c0.toList,u.oneCell'= true:=by
   intro u hu
   simp only[c0,Array.toList_map,List.mem_map,Array.mem_toList_iff,Array.mem_range]at hu
   obtain⟨i,X,rfl⟩:=hu
   have m:len * c.size≠0:=om
   have a6:z'= z.cells:=if_neg m
   rw[a6]
   have ab:0<z.cells.size:=by
    rw[ar]
    rcases Nat.eq_zero_or_pos c.size with e|e
    ·rw[e]at m;simp at m
    ·exact e
   have a3:i % z.cells.size<z.cells.size:=Nat.mod_lt _ ab
   rw[getElem!_pos z.cells _ a3]
   exact zz _ Wb
  have ac:AM g w (List.replicate (len * c.size) .undef) c0.toList:=by
   have:∀(l:List Value),AM g w (List.replicate l.length .undef) l:=by
    intro l
    induction l with
    |nil=>rfl
    |cons v l E=>exact⟨v,l,rfl,trivial,E⟩
   have h:=this c0.toList
   rwa [show c0.toList.length=len * c.size by simp[c0]]at h
  obtain⟨ag,cells', e1,e2,e3,e4,e5⟩:=sY (g:=g) (w:=w) (a:=a) f.toList _ c0 _ _ hv (λp hp=>ho p.2 WT) ac ak
  have ae:c.agg=false->c.size=1:=by
   intro e
   rw[e]at a1
   exact Nat.eq_of_beq_eq_true (by simpa using a1)
  obtain⟨xs', Vs,f1,f2,f3,f4,f5⟩:=vG ae len ag cells'.toList _ _ e5 e3 e4
  have ap:xs=xs':= by
   have h0:AV.slice xs' .full=AV.slice xs .full:=Option.some.inj f1
   injection h0 with h1 _
   exact h1.symm
  subst ap
  have a8:cells'.size=len * c.size:=by rw[e2];simp[c0]
  have a2:flat Vs=cells'.toList:=by rw[f5,take_of_length_le];simp[a8]
  have aq:xs.length=len:=f3.length.symm.trans f2
  have aj:H.T++[.aa xs]=T':= Option.some.inj (eQ _ _ _ _ ai)
  have a9:H.T.length=k:=dI am
  have a4:g.tk[k]? =none:=by
   have a3:g.tk.length=H.T.length:=hI.lenT
   rw[<-a9, <-a3];simp
  have a5:∀b o,(⟨some ⟨w.heap.size,0,none⟩,len,len,c.size,0⟩:A8).a1 b o->b=w.heap.size/\o<cells'.size:=by
   rintro b o ⟨p,hp,rfl,e1,e2⟩
   cases hp
   refine⟨rfl, ?_⟩
   rw[a8]
   simpa using e2
  obtain⟨g', n1,n2,n3,_⟩:=Ks (k:=k) (r':= ⟨some ⟨w.heap.size,0,none⟩,len,len,c.size,0⟩) (t' := .aa xs) (J:=λ_ _=>False) hI (w':= dO w (.cells cells' q.elem)) (.inr ⟨a9.symm,rfl⟩)
   XJ rfl rfl rfl (λb hb _=>cQ w _ hb) (λb o hb _=>(cI (cQ w _ hb)).1) (λb o hb=>(cI (cQ w _ hb)).2) (λ_ _ h=>h.elim)
   (λb o ho=>by
    obtain⟨rfl,h2⟩:=a5 b o ho
    exact⟨⟨cells'[o],(dV w cells' q.elem o).trans (Array.getElem?_eq_getElem h2)⟩,j5 w cells' q.elem o, .inl (le_refl _)⟩)
   (λr hr=>by rw[a4]at hr;cases hr)
   (λg' an=>⟨aq.symm,rfl,le_refl _,Vs,AM.mono an _ _ f3,(λe=>by cases e),f4,(λp hp=>by
    cases hp
    refine⟨.inl rfl,fG f4 λj u hj=> ?_⟩
    rw[a2]at hj
    refine⟨trivial, ?_,e4 u (List.mem_of_getElem? hj)⟩
    show (dO w (.cells cells' q.elem)).cell? ⟨w.heap.size,0+j,none⟩=some u
    rw[zero_add]
    exact(dV w cells' q.elem j).trans Xy)⟩)
  have ad:(execOp a.eval ⟨some d, .buildSlice T len f,R,D,S,none⟩).run P w = .ok (.value (.slice (some ⟨w.heap.size,0,none⟩) len len)) (dO w (.cells cells' q.elem)):=by
   have hs:¬(len * c.size>2 ^ 24):=by
    have:=Nat.le_of_ble_eq_true y
    omega
   have n:∀zz:Array Value,zz=z'-> Instr.fill (λi=>some (i * c.size,c.size)) ((Array.range (len * c.size)).map (λx=>zz[x % zz.size]!)) (f.map λx=>(x.1,a.eval x.2)).toList=some cells':= by
    intro zz a6
    subst a6
    rw[<-e1]
    congr 1
    simp
   simp only[execOp,Instr.buildSlice,Sem.run_bind,run_underlying t2,Result.andThen,dA hE,if_neg hs]
   by_cases m:len * c.size=0
   ·have h0:=n #[] (show #[]=z' from (if_pos m).symm)
    rw[if_pos m]
    simp only[Sem.run_bind,Sem.run_pure,Result.andThen,h0]
    rfl
   ·have h0:=n z.cells (show z.cells=z' from (if_neg m).symm)
    rw[if_neg m]
    simp only[Sem.run_bind,Sem.run_pure,Result.andThen,hz,h0]
    rfl
  unfold Oper.wp
  rw[ad]
  refine hn _ _ _ n1 (aj▸n2) ⟨some ⟨w.heap.size,0,none⟩,len,rfl,zero_le _,le_refl _,le_refl _, ?_,(λ_=>⟨_,_,rfl⟩),_,n3,rfl,le_refl _,λ_=>⟨rfl,rfl,λ_=>⟨_,rfl,rfl,Wb⟩⟩⟩
  have:=Nat.le_of_ble_eq_true aa
  unfold maxLen
  omega⟩ kk
end rules
end Go.Av
namespace Go.Proofs.YtimbiifcnhgcoaaGreatDoor
open Go Go.Av Go.Proofs.Tryz
def fJ(s:AJ)(d:AR)(A:List AF)(u:AG):Nat->List Sl->Gs->Gs
 |_,[],g=>g
 |n, .mk k a nm ar di on se::l,g=>
  let x:=Sl.mk k a nm ar di on se
  fJ s d A u n l (
   if iT A di=false then g
   else if k=0 then ⟨g.met,kK x g.out⟩
   else if k=1 then
    (if nm∈g.met then g else match iQ d nm with
     |none=>g
     |some f=>if kV s u f.on=true then (match n with
       |0=>⟨g.met++[nm],g.out⟩
       |n+1=>fJ s d A u n f.O ⟨g.met++[nm],g.out⟩) else ⟨g.met++[nm],g.out⟩)
   else if k=2 then (if kV s u on=true then fJ s d A u n se g else g)
   else g)
termination_by n l=>(n,fN l)
decreasing_by
 all_goals simp_wf
 all_goals simp only[fN,Sl.size]
 all_goals first|exact Prod.Lex.left _ _ (Nat.lt_succ_self _)|(apply Prod.Lex.right;omega)
def qD(s:AJ)(d:AR)(A:List AF)(u:AG)(n:Nat)(x:Sl)(g:Gs):Gs:=
 if iT A x.ar=false then g
 else if x.kind=0 then ⟨g.met,kK x g.out⟩
 else if x.kind=1 then
  (if x.name∈g.met then g else match iQ d x.name with
   |none=>g
   |some f=>if kV s u f.on=true then (match n with
     |0=>⟨g.met++[x.name],g.out⟩
     |n+1=>fJ s d A u n f.O ⟨g.met++[x.name],g.out⟩) else ⟨g.met++[x.name],g.out⟩)
 else if x.kind=2 then (if kV s u x.on=true then fJ s d A u n x.O g else g)
 else g
theorem pQ(s:AJ)(d:AR)(A:List AF)(u:AG)(n:Nat)(g:Gs):fJ s d A u n [] g=g:=by rw[fJ]
theorem nV(s:AJ)(d:AR)(A:List AF)(u:AG)(n:Nat)(x:Sl)(l:List Sl)(g:Gs):fJ s d A u n (x::l) g=fJ s d A u n l (qD s d A u n x g):=by cases x;rw[fJ];rfl
theorem Iz(s:AJ)(d:AR)(A:List AF)(u:AG)(n:Nat):∀(a b:List Sl) (g:Gs),fJ s d A u n (a++b) g=fJ s d A u n b (fJ s d A u n a g)
 |[],b,g=>by rw[List.nil_append,pQ]
 |x::a,b,g=>by rw[List.cons_append,nV,Iz s d A u n a b,nV]
def M1(s:AJ)(d:AR)(A:List AF)(u:AG)(n:Nat){l:List Sl}(h:k<l.length)(g:Gs):
  fJ s d A u n (l.take (k+1)) g=qD s d A u n l[k] (fJ s d A u n (l.take k) g):=by rw[List.take_succ_eq_append_getElem h,Iz,nV,pQ]
def Ay(d:AR)(g h:Gs):Prop:=g.out=h.out/\∀f∈d.aj,f.name∈g.met↔f.name∈h.met
theorem El(d:AR)(g:Gs):Ay d g g:=⟨rfl,λ_ _=>Iff.rfl⟩
def Ay.snoc{d:AR}(r:Ay d g h)(nm:AG):Ay d ⟨g.met++[nm],g.out⟩ ⟨h.met++[nm],h.out⟩:=⟨r.1,λf hf=>by simp only[List.mem_append];rw[r.2 f hf]⟩
def Sp(s:AJ)(d:AR)(A:List AF)(u:AG)(n N:Nat)(i:∀m,n=m+1->∀l g h,Ay d g h->Ay d (fQ s d A u m l g) (fJ s d A u m l h))
  (E:∀l g h,aC Sl.size l<=N->Ay d g h->Ay d (fQ s d A u n l g) (fJ s d A u n l h)) (x:Sl) (o:aC Sl.size x.O<=N) (g h:Gs) (r:Ay d g h):
  Ay d (jN s d A u n x g) (qD s d A u n x h):=by
 unfold jN qD;split
 ·exact r
 split
 ·exact⟨by dsimp only;rw[r.1],r.2⟩
 split
 ·cases hf:iQ d x.name with
  |none=>
   have hno:∀f∈d.aj,f.name≠x.name:=λf a e=>by unfold iQ at hf;have:=List.find?_eq_none.1 hf f a;simp[e]at this
   have j:Ay d (if x.name∈g.met then g else ⟨g.met++[x.name],g.out⟩) h:=by
    split
    ·exact r
    ·refine⟨r.1,λf a=> ?_⟩;rw[<-r.2 f a];simp only[List.mem_append,List.mem_singleton,hno f a,or_false]
   have k:(if x.name∈h.met then h else h)=h:=by split<;>rfl
   dsimp only;rw[k];exact j
  |some f=>
   obtain⟨a,b⟩:=jJ hf;have X:=r.2 f a;rw[b]at X;by_cases c:x.name∈g.met
   ·rw[if_pos c,if_pos (X.1 c)];exact r
   ·rw[if_neg c,if_neg (λq=>c (X.2 q))];dsimp only;split
    ·cases n with
     |zero=>exact r.snoc _
     |succ m=>exact i m rfl f.O _ _ (r.snoc _)
    ·exact r.snoc _
 split
 ·split
  ·exact E x.O g h o r
  ·exact r
 ·exact r
def Fi(s:AJ)(d:AR)(A:List AF)(u:AG)(n:Nat)(a:∀m,n=m+1->∀l g h,Ay d g h->Ay d (fQ s d A u m l g) (fJ s d A u m l h)):∀(N:Nat) (l:List Sl) (g h:Gs),aC Sl.size l<=N->Ay d g h->Ay d (fQ s d A u n l g) (fJ s d A u n l h)
 |_,[],g,h,_,r=>by rw[fL,pQ];exact r
 |0,x::l,g,h,b,r=>by rw[aC]at b;have:=x.au;omega
 |N+1,x::l,g,h,b,r=>by
  rw[aC]at b
  have hx:=x.ay
  have hp:=x.au
  rw[gD,nV]
  exact Fi s d A u n a N l _ _ om (Sp s d A u n N a (λl g h b r=>Fi s d A u n a N l g h b r) x om g h r)
theorem De(s:AJ)(d:AR)(A:List AF)(u:AG):∀(n:Nat) (l:List Sl) (g h:Gs),Ay d g h->Ay d (fQ s d A u n l g) (fJ s d A u n l h)
 |0,l,g,h,r=>Fi s d A u 0 (λm h=>absurd h om) _ l g h (le_refl _) r
 |n+1,l,g,h,r=>Fi s d A u (n+1) (λm h l g a r=>(Nat.succ.inj h)▸De s d A u n l g a r) _ l g h (le_refl _) r
theorem Ux(s:AJ)(d:AR)(A:List AF)(u:AG)(l:List Sl):(fJ s d A u d.aj.length l ⟨[],[]⟩).out=bF s d A u l:=(De s d A u _ l _ _ (El d _)).1.symm
attribute [local irreducible] AB AD AN AI Av.AU AZ
def wV(s:AJ)(d:AR)(A:List AF)(u:AG)(met:List AG)(o:AV):List AV:=
 [.slice (s.ai.map Ah.C) .no, .str s.query, .str s.av, .slice (d.ops.map Ak.C) .no, .slice (d.aj.map Af.C) .no, .slice (A.map AF.C) .no, .str u, .slice (met.map AV.str) (.own 0 1),o]
def pgT(m:Gs):List Tok := .len m.met.length :: .aa (cU 1 m.out)::m.out.map λg => .aa (g.O.map Sl.C)
def pgB(s:AJ)(d:AR)(A:List AF)(u:AG)(met:List AG)(n:Nat):List Ob:=[.cells (wV s d A u met (.aa 1 2 n 0 n))]
def pgS(s:AJ)(d:AR)(A:List AF)(u:AG)(m:Gs):St:=⟨pgB s d A u m.met m.out.length,pgT m⟩
theorem iO(m:Gs):(pgT m).length=m.out.length+2:=by rw[pgT,List.length_cons,List.length_cons,length_map]
def lV(n:Nat)(m:Gs):aL n (pgT m).length (pgT m)=true:=by
 have h:=Ea n 1 m.out (pgT m).length Xv;have a:∀(l:List AT) (k:Nat),aL n k (l.map λg=>Tok.aa (g.O.map Sl.C))=true:=λl k=>by
  induction l with
  |nil=>rfl
  |cons g l E=>rw[List.map_cons,aL,E,Tok.ab,aD _ _ _ (aZ _)];rfl
 rw[pgT,aL,aL,a,Tok.ab,Tok.ab];rw[pgT]at h;rw[h];rfl
def uD(s:AJ)(d:AR)(A:List AF)(u:AG)(met:List AG)(n m:Nat)(h:1<m):aQ 1 m (pgB s d A u met n)=true:=by have h0:aE 1 m (met.map AV.str)=true:=aD _ _ _ (aT _);simp[pgB,wV,aQ,Ob.ab,aE,AV.ab,h,h0,aD,iS,kD,uR,aR];omega
def nzS[AL]{S:Nat->AE}{Z:Nat->St}{J:Nat->Prop}{H:St}{s': AE}(b:J (k+1))(hs:Av.Sub (S (k+1)) s')(hb:aM H.B.length H.T.length (S (k+1))=true)(a:aQ H.B.length H.T.length H.B=true)(hT:aL H.B.length H.T.length H.T=true)(hz:H=Z (k+1)):Nz S Z J H k s' H:=
 ⟨hs,hb,by rw[take_length,take_length,a,hT];rfl,by rw[take_length,take_length];exact hz,b⟩
def OD{s:AJ}{d:AR}{A:List AF}{u:AG}{f:FuncId}{args:List AV}{m R:Gs}(c:m.out.length<=R.out.length)
  (h:AI prog f args (pgS s d A u m) (λe b=>∃v a,e = .ret v/\AK b v a (.tup [])/\a.B.take 1=pgB s d A u R.met R.out.length/\a.T.take (pgT R).length=pgT R)):
  AI prog f args (pgS s d A u m) (λe Y=>e = .ret (.tup [])/\Y=pgS s d A u R):=
 gI (nB:=1) (mT:=(pgT R).length) h (le_refl _) (by show (pgT m).length<=_;rw[iO,iO];omega) rfl (uD s d A u R.met R.out.length _ Xv) (lV _ _)
def Sq{a b w:Tok}{S:List Tok}{j:Nat}(h:j<S.length):(a::b::S.set j w)[j+1+1]? =some w:=by rw[List.getElem?_cons_succ];exact LN h
def aCd(s:AJ)(d:AR)(A:List AF)(u:AG)(m:Gs)(x:Sl)(hl:m.out.length<=68719476736)(hs:∀g∈m.out,g.O.length<=68719476736):
  AI prog 238 [.ptr 0 0,x.C] (pgS s d A u m) (λe Y=>e = .ret (.tup [])/\Y=pgS s d A u ⟨m.met,kK x m.out⟩):=by
 obtain⟨met,a⟩:=m;simp only at hl hs;have hk:=RT x;have hn:=sU 1 a;have h:=uD s d A u met a.length (pgT ⟨met,a⟩).length Xv;have p:=lV 1 ⟨met,a⟩;refine OD (xH x a) (aS [] func238 ?_);unfold pgS pgB wV
 repeat' first|refine .br ?_|refine .s1 ?_|(refine .q ?_ ?_<;>intro O)|fail
 refine fX a (Cc 0) (λk=>[(5, .int .i64 k),(4, .str (jH x)),(3, .ac x.C),(0, .ptr 0 0)]) (λ_=>⟨pgB s d A u met a.length,pgT ⟨met,a⟩⟩) (λk=>bG (λg:AT=>g.key==jH x) a 0=bG (λg:AT=>g.key==jH x) (a.drop k) k) rfl (λk n z _ hj=> ?_) (λz hj=> ?_)
 ·rw[cR n]at hj;have w:(cU 1 a)[k]? =some (Cc (k+1) a[k]):=by rw[D8 1 a k n,Nat.add_comm 1 k]
  unfold pgB wV at h;unfold pgT at h p;unfold pgB wV pgT;cases y:(a[k].key==jH x)<;>rw[y]at hj
  ·repeat' first|refine .s1 ?_|(refine .q ?_ ?_<;>intro O)|refine b7 rfl ?_|refine jE rfl rfl rfl rfl ?_|refine fI rfl rfl rfl rfl rfl rfl rfl om (zero_add _) ?_|refine fD rfl rfl rfl hn w rfl ?_|fail
   exact nzS hj Z9 (by simp[aM,AV.ab,aF,Sl.K]) h p rfl
  ·have hS:(Tok.len met.length :: .aa (cU 1 a)::a.map λg=>Tok.aa (g.O.map Sl.C))[k+1+1]? =some (.aa (a[k].O.map Sl.C)):=by rw[List.getElem?_cons_succ,List.getElem?_cons_succ];simp[n]
   have r:k<(a.map λg=>Tok.aa (g.O.map Sl.C)).length:=by simpa using n
   have t:k+1+1<(Tok.len met.length :: .aa (cU 1 a)::a.map λg=>Tok.aa (g.O.map Sl.C)).length:=Wl
   have c:(a[k].O.map Sl.C).length=a[k].O.length:=length_map _;have hz:=hs _ (getElem_mem n);have e1:kK x a=a.set k ⟨a[k].key,a[k].O++[x]⟩:=IU n hj;have o:(cU 1 (a.set k ⟨a[k].key,a[k].O++[x]⟩))=(cU 1 a).set k (Cc (k+1) ⟨a[k].key,a[k].O++[x]⟩):=by rw[<-D9,Nat.add_comm 1 k]
   have f:((a.set k ⟨a[k].key,a[k].O++[x]⟩).map λg=>Tok.aa (g.O.map Sl.C))=(a.map λg=>Tok.aa (g.O.map Sl.C)).set k (.aa (a[k].O.map Sl.C++[x.C])):=by rw[map_set,map_append];rfl
   have i:((a.set k ⟨a[k].key,a[k].O++[x]⟩).length)=a.length:=List.length_set ..
   rw[e1];dsimp only;rw[i,o,f]
   repeat' first|refine OY rfl rfl rfl rfl rfl Wd Wd Xe (λb=> ?_)|refine b7 rfl ?_|refine .s1 ?_|(refine .q ?_ ?_<;>intro O)|refine fI rfl rfl rfl rfl rfl rfl rfl om (zero_add _) ?_|refine fD rfl rfl rfl hn w rfl ?_|refine jE rfl rfl rfl rfl ?_|refine eG rfl rfl rfl rfl rfl rfl rfl hS c rfl rfl Wa Wa (gJ t) ?_|refine bC (agg:=true) rfl rfl rfl rfl rfl hn w rfl rfl rfl rfl ?_|refine fI (j:=a[k].O.length) rfl rfl rfl rfl rfl rfl rfl Wa (zero_add _) ?_|refine bC (agg:=true) rfl rfl rfl rfl (Sq r) (by rw[length_append,c]) (xG _ _ c) rfl rfl rfl (gJ (by simp only[List.length_cons,List.length_set];omega)) ?_|fail
   ·refine⟨_,_,rfl,eM _ _,rfl, ?_⟩;rw[take_of_length_le Wb];show _::_::List.set (List.set _ k _) k _=_;rw[set_set,sV _ _ _ c];simp only[Cc,length_append];rfl
   ·refine⟨_,_,rfl,eM _ _,rfl, ?_⟩;rw[take_of_length_le Wb];simp only[Cc,length_append];rfl
 ·rw[List.drop_length,bG]at hj;have l:a.find? (λg=>g.key==jH x)=none:=by
   rcases eN (λg:AT=>g.key==jH x) a 0 with⟨_,q⟩|⟨j,_,q,_⟩
   ·exact q
   ·rw[q]at hj;omega
  rw[Eb l];unfold pgB wV pgT;dsimp only;have v:dN (Tok.len met.length :: .aa (cU 1 a)::a.map λg=>Tok.aa (g.O.map Sl.C))=some (1+a.length+1):=by rw[oP];simp;omega
  repeat' first|refine b7 rfl ?_|refine HG (len:=1) (xs:=[x.C]) rfl rfl rfl rfl rfl rfl rfl rfl v (oQ _ _ _) ?_|refine .s1 ?_|(refine .q ?_ ?_<;>intro O)|refine jE rfl rfl rfl rfl ?_|refine eG rfl rfl rfl rfl rfl rfl rfl rfl hn rfl rfl Wa Wa rfl ?_|fail
  refine⟨_,_,rfl,eM _ _, ?_, ?_⟩
  ·rw[length_append];rfl
  ·rw[take_of_length_le Wb,D7,map_append];rfl
end Go.Proofs.YtimbiifcnhgcoaaGreatDoor
namespace Go.Av
open Go
def Df[AL]{P:Program}{N:Nat}{D:List Deferred}{K:AX->AE->St->Prop}{s:AE}{H:St}{x y:Code}(b:Nat)(q:aQ H.B.length H.T.length H.B=true)(hT:aL H.B.length H.T.length H.T=true)
  (h:AB P N D x (thn (λs' Y=>∃v ts d c,lk? s' b=some v/\AK Y v ⟨H.B,H.T++ts⟩ d/\Sub c ((b,d)::s')/\aM H.B.length H.T.length c=true/\AB P N D y K c H) K) s H):AB P N D (.seq x y) K s H:=λg w a X hr ha z=>by
 refine wp_seq (wp_mono (h g w a X hr ha z) ?_)
 rintro e f w' ⟨o,s', Y,g', h1,h2,h3,h4,h5,h6,h7⟩
 cases o with
 |normal=>
  cases (show e = .normal from h1)
  obtain⟨v,ts,d,c,q1,q2,q3,q4,q6⟩:=h7
  have k:=h6 b
  rw[gY q1]at k
  obtain⟨p,i,k2,k3⟩:=q2 g' w' _ h5 k
  have sr:A3 p w' ((b,d)::s') f.tmps:=λu=>by
   unfold lk
   cases e:Nat.beq b u with
   |true=>have:=Nat.eq_of_beq_eq_true e;subst this;exact k3
   |false=>exact Aa.mono i.le _ _ (h6 u)
  have r:=X.lenB
  have a0:=X.lenT
  have kx:=rN (n:=H.B.length) (m:=H.T.length) (h4.trans i) om om
  have j:=pK (n:=H.B.length) (m:=H.T.length) k2 (by rw[take_length];exact q) (by rw[List.take_left'];exact hT;rfl)
  rw[take_length,List.take_left' rfl]at j
  exact wp_mono (q6 _ w' f j (λt=>Aa.ab _ _ (rM q4 t) (q3.a6 sr t)) h2 h3) λ_ _ _ hp=>hp.trans kx
 |exit id=>cases (show e = .exit id from h1);exact⟨.exit id,s', Y,g', rfl,h2,h3,h4,h5,h6,h7⟩
 |goto l=>cases (show e = .goto l from h1);exact⟨.goto l,s', Y,g', rfl,h2,h3,h4,h5,h6,h7⟩
 |ret=>cases (show e = .ret from h1);exact⟨.ret,s', Y,g', rfl,h2,h3,h4,h5,h6,h7⟩
 |pan x=>obtain⟨u,rfl,hu⟩:=h1;exact⟨.pan x,s', Y,g', ⟨u,rfl,hu⟩,h2,h3,h4,h5,h6,h7⟩
end Go.Av
namespace Go.Proofs.YtimbiifcnhgcoaaGreatDoor
open Go Go.Av Go.Proofs.Tryz
attribute [local irreducible] AB AD AN AI Av.AU AZ
theorem IA{d:AR}(r:Ay d g h):gA d g.met=gA d h.met:=List.filter_congr λf hf=>decide_eq_decide.2 (not_congr (r.2 f hf))
theorem Uy{d:AR}(r:Ay d g h):qK d g=qK d h:=by unfold qK xI;rw[r.1,IA r]
def wG(d:AR)(g:Gs):Nat:=g.met.length+(gA d g.met).length
def Uz(s:AJ)(d:AR)(A:List AF)(u:AG)(n N:Nat)(e:∀m,n=m+1->∀l g,wG d (fJ s d A u m l g)<=wG d g)(E:∀l g,aC Sl.size l<=N->wG d (fJ s d A u n l g)<=wG d g)(x:Sl)(i:aC Sl.size x.O<=N)(g:Gs):wG d (qD s d A u n x g)<=wG d g:=by
 unfold qD;split
 ·omega
 split
 ·exact le_refl _
 split
 ·split
  ·omega
  rename_i hn;cases hf:iQ d x.name with
  |none=>exact le_refl _
  |some f=>
   obtain⟨c,a⟩:=jJ hf;have b:=Ec d g.met c (by rw[a];exact hn);rw[a]at b;have h:wG d ⟨g.met++[x.name],g.out⟩<=wG d g:=Yd
   grind
 grind
def JM(s:AJ)(d:AR)(A:List AF)(u:AG)(n:Nat)(a:∀m,n=m+1->∀l g,wG d (fJ s d A u m l g)<=wG d g):∀(N:Nat) (l:List Sl) (g:Gs),aC Sl.size l<=N->wG d (fJ s d A u n l g)<=wG d g
 |_,[],g,_=>by rw[pQ];exact le_refl _
 |0,x::l,g,h=>by rw[aC]at h;have:=x.au;omega
 |N+1,x::l,g,h=>by rw[aC]at h;have hx:=x.ay;rw[nV];exact Nat.le_trans (JM s d A u n a N l _ om) (Uz s d A u n N a (λl g b=>JM s d A u n a N l g b) x om g)
def OE(s:AJ)(d:AR)(A:List AF)(u:AG):∀(n:Nat) (l:List Sl) (g:Gs),wG d (fJ s d A u n l g)<=wG d g
 |0,l,g=>JM s d A u 0 (λm h=>om) _ l g (le_refl _)
 |n+1,l,g=>JM s d A u (n+1) (λm h l g=>by obtain rfl:n=m:=om;exact OE s d A u n l g) _ l g (le_refl _)
def Vv(s:AJ)(d:AR)(A:List AF)(u:AG)(f:Af)(g:Gs):Nat->Gs
 |0=>g
 |n+1=>fJ s d A u n f.O g
def M4{s:AJ}{d:AR}{A:List AF}{u:AG}{n:Nat}{x:Sl}{m:Gs}{f:Af}(hk:x.kind=1)(a:iT A x.ar=true)(h:x.name∉m.met)(hf:iQ d x.name=some f):
  qD s d A u n x m=if kV s u f.on=true then Vv s d A u f ⟨m.met++[x.name],m.out⟩ n else ⟨m.met++[x.name],m.out⟩:=by unfold qD;rw[if_neg Ww,if_neg om,if_pos hk,if_neg h,hf];cases n<;>rfl
def B5(s:AJ)(d:AR)(A:List AF)(u:AG)(n:Nat)(l:List Sl)(m:Gs):Prop:=
 (gA d m.met).length<=n->qK d m+aC Sl.size l<=68719476736->wG d m<=1048576->
  AI prog 157 [.ptr 0 0, .slice (l.map Sl.C) .no] (pgS s d A u m) (λe Y=>e = .ret (.tup [])/\Y=pgS s d A u (fJ s d A u n l m))
def IB(s:AJ)(d:AR)(A:List AF)(u:AG)(n:Nat)(l:List Sl)(g:Gs):g.out.length<=(fJ s d A u n l g).out.length:=by have:=Dr s d A u n _ l g (le_refl _);rwa [(De s d A u n l g g (El d g)).1]at this
def aCe(s:AJ)(d:AR)(A:List AF)(u:AG)(n:Nat)(l:List Sl)(g:Gs):qK d (fJ s d A u n l g)<=qK d g+aC Sl.size l/\(gA d (fJ s d A u n l g).met).length<=(gA d g.met).length:=by have r:=De s d A u n l g g (El d g);have:=LQ s d A u n l g;rwa [Uy r,IA r]at this
def M5(s:AJ)(d:AR)(A:List AF)(u:AG)(hs:s.size<=1048576)(au:d.aj.length<=1048576)(he:A.length<=1048576)(n:Nat)(am:∀k,n=k+1->∀l m,B5 s d A u k l m):
  ∀(N:Nat) (l:List Sl) (m:Gs),aC Sl.size l<=N->B5 s d A u n l m
 |N,l,m,hN=>λhu hp hw=>by
  have bh:=aJ Sl.au l;refine OD (IB s d A u n l m) (aS [] func157 ?_);refine .go ?_;change AB _ _ _ _ _ _ _;refine FP (λn' s' H=>∃k:Nat,n'= l.length-k/\k<=l.length/\H=pgS s d A u (fJ s d A u n (l.take k) m)/\s'= [(4, .int .i64 k),(1, .slice (l.map Sl.C) .no),(0, .ptr 0 0)])
   (s0:=[(4, .int .i64 (0:Nat)),(1, .slice (l.map Sl.C) .no),(0, .ptr 0 0)]) Z9 ⟨0,rfl,zero_le _,by rw[List.take_zero,pQ],rfl⟩ ?_
  rintro n' s' H ⟨k,rfl,hk,rfl,rfl⟩;by_cases h1:k<l.length
  ·have d1:decide ((k:Int)<(l.length:Int))=true:=by simp[h1]
   have x1:=aV (f:=Sl.C) h1;have hR:=M1 s d A u n h1 m;obtain⟨p1,p2⟩:=aCe s d A u n (l.take k) m;have ay:=OE s d A u n (l.take k) m;have ab:=gK (f:=Sl.size) h1;have aj:=fK Sl.size l (k+1);have ah:=IB s d A u n [l[k]] (fJ s d A u n (l.take k) m);rw[nV,pQ, <-hR]at ah;generalize b2:fJ s d A u n (l.take k) m=st at *;generalize zz:fJ s d A u n (l.take (k+1)) m=R at *;have bj:=l[k].ay;have aw:∀q:l[k].kind=2,B5 s d A u n l[k].O st:=λ_=>M5 s d A u hs au he n am (N-1) l[k].O st om
   have be:=aJ (size:=AO.size) (λd=>X4) l[k].ar;generalize l[k]=x at *;have ag:=aA6 A x.ar om om;obtain⟨o1,o2⟩:=LS d st;have t:=aCd s d A u st x om (λg hg=>by have:=o2 g hg;omega);have a7:(pgT st).length<=(pgT R).length:=by rw[iO,iO];omega
   have a8:=uD s d A u st.met st.out.length (pgT st).length Xv;have a1:=uD s d A u R.met R.out.length (pgT R).length Xv;have fin:∀(B1:List Ob) (s1:AE),Av.Sub [(4, .int .i64 ((k+1:Nat):Int)),(1, .slice (l.map Sl.C) .no),(0, .ptr 0 0)] s1->
     ∃m', m'< l.length-k/\∃s2 nB mT,(pgS s d A u st).B.length<=nB/\(pgS s d A u st).T.length<=mT/\Av.Sub s2 s1/\aM nB mT s2=true/\aQ nB mT ((pgB s d A u R.met R.out.length++B1).take nB)=true/\aL nB mT ((pgT R).take mT)=true/\
      ∃k': Nat,m'= l.length-k'/\ k'<= l.length/\(⟨(pgB s d A u R.met R.out.length++B1).take nB,(pgT R).take mT⟩:St)=pgS s d A u (fJ s d A u n (l.take k') m)/\s2=[(4, .int .i64 k'),(1, .slice (l.map Sl.C) .no),(0, .ptr 0 0)]:=λB1 s1 ak=>by
    refine⟨l.length-(k+1),om,_,1,(pgT R).length,le_refl _,a7,ak,Wj,a1,by rw[take_length];exact lV _ _,k+1,rfl,om, ?_,rfl⟩;rw[take_length,zz];rfl
   cases v:iT A x.ar with
   |false=>
    rw[v]at ag;have i:R=st:=by rw[hR];unfold qD;rw[if_pos v]
    subst i;unfold pgS pgB wV;repeat' first|refine b7 rfl ?_|refine .s1 ?_|(refine .q ?_ ?_<;>intro O)|fail
    exact fin [] _ Z9
   |true=>
    rw[v]at ag;by_cases c1:x.kind=0
    ·have e1:(x.kind==0)=true:=by rw[c1];rfl
     have i:R=⟨st.met,kK x st.out⟩:=by rw[hR];unfold qD;rw[if_neg YV,if_pos c1]
     rw[<-i]at t;have p:aE 1 (pgT st).length [.ptr 0 0,x.C]=true:=by simp[aE,AV.ab,aF,Sl.K]
     unfold pgS at t ⊢;unfold pgB wV;repeat' first|refine b7 rfl ?_|refine .s1 ?_|(refine .q ?_ ?_<;>intro O)|refine dE (B:=[]) rfl t rfl rfl a7 a8 (lV _ _) a1 (lV _ _) p rfl (aB _) ?_|fail
     exact fin [] _ Z9
    have e1:(x.kind==0)=false:=by simpa using c1
    by_cases c3:x.kind=2
    ·have e3:(x.kind==2)=true:=by rw[c3];rfl
     have w:¬x.kind=1:=om
     have e:=Ll s u x.on hs;cases c4:kV s u x.on with
     |true=>
      rw[c4]at e;have i:R=fJ s d A u n x.O st:=by rw[hR];unfold qD;rw[if_neg YV,if_neg c1,if_neg w,if_pos c3,if_pos c4]
      have ht:=aw c3 om om om;rw[<-i, <-x.bc]at ht;have p:aE 1 (pgT st).length [.ptr 0 0, .slice x.sv .no]=true:=by simp[aE,AV.ab,aD,Sl.cb]
      unfold pgS at ht ⊢;unfold pgB wV;repeat' first|refine b7 rfl ?_|refine .s1 ?_|(refine .q ?_ ?_<;>intro O)|refine dE (B:=[]) rfl ht rfl rfl a7 a8 (lV _ _) a1 (lV _ _) p rfl (aB _) ?_|fail
      exact fin [] _ Z9
     |false=>
      rw[c4]at e;have i:R=st:=by rw[hR];unfold qD;rw[if_neg YV,if_neg c1,if_neg w,if_pos c3,if_neg (by simp[c4])]
      subst i;unfold pgS pgB wV;repeat' first|refine b7 rfl ?_|refine .s1 ?_|(refine .q ?_ ?_<;>intro O)|fail
      exact fin [] _ Z9
    have e3:(x.kind==2)=false:=by simpa using c3
    by_cases w:x.kind=1
    ·have e2:(x.kind==1)=true:=by rw[w];rfl
     have bi:st.met.length<=1048576:=by unfold wG at ay hw;omega
     have bf:=K4 d x.name om;have o:=Cv st.met x.name om;have a3:AA [.slice (st.met.map AV.str) (.own 0 1), .str x.name] [.slice (st.met.map AV.str) .no, .str x.name]:=AA.cons (AC.no (aB _)) (aB _);have ai:(st.met.map AV.str).length=st.met.length:=length_map _;have ax:=lV 1 st;have h:=iO st;have aj:dN (pgT st)=some (st.out.length+2):=by rw[oP,h]
     have a2:=λ(B:List Ob) (z fe:AV)=>bE (H:=⟨B,(pgT st++[Tok.aa [z]]).set (st.out.length+2) (Tok.aa [fe])⟩) (k:=st.out.length+2) (z:=4) (n:=1) (j:=0) (xs:=[fe]) (y:=fe) (by rw[sV _ _ _ h,xG _ _ h]) rfl rfl (gJ YW)
     have av:=λ(z:AV)=>xG (pgT st) (Tok.aa [z]) h
     unfold pgS;repeat' first|refine b7 rfl ?_|refine Df (x := .region 11 _ _) 5 a8 ax ?_|refine bJ (d:=5) (k:=st.out.length+2) rfl rfl rfl aj (oQ _ _ _) ?_|refine .s1 ?_|(refine .q ?_ ?_<;>intro O)|refine bC (agg:=true) rfl rfl rfl rfl (av _) rfl rfl rfl rfl rfl (gJ YW) ?_|fail
     have a2:=a2 (pgB s d A u st.met st.out.length) (.agg [.str [], .str [], .slice [] .nil, .slice [] .nil]) (cM d x.name).1.C;have ab:∀a b:Tok,(pgT st++[a]).set (st.out.length+2) b=pgT st++[b]:=λa b=>sV _ _ _ h
     simp only[ab]at a2;refine⟨_,_,_,[(5, .ac (cM d x.name).1.C),(6, .bool (cM d x.name).2),(4, .int .i64 k),(1, .slice (l.map Sl.C) .no),(0, .ptr 0 0)],rfl,by rw[ab];exact a2,Z9,by simp[aM,AV.ab,aF,aD,Af.K,aZ,pgB], ?_⟩;by_cases c5:x.name∈st.met
     ·rw[decide_eq_true c5]at o;have i:R=st:=by rw[hR];unfold qD;rw[if_neg YV,if_neg c1,if_pos w,if_pos c5]
      subst i;unfold pgB wV;repeat' first|refine b7 rfl ?_|refine .s1 ?_|(refine .q ?_ ?_<;>intro O)|refine aH rfl o a3 ?_|fail
      exact fin [] _ Z9
     rw[decide_eq_false c5]at o;cases r:iQ d x.name with
     |none=>
      have aa:cM d x.name=(U6,false):=by unfold cM;rw[r]
      rw[aa];have i:R=st:=by rw[hR];unfold qD;rw[if_neg YV,if_neg c1,if_pos w,if_neg c5,r]
      subst i;unfold pgB wV;repeat' first|refine b7 rfl ?_|refine .s1 ?_|(refine .q ?_ ?_<;>intro O)|refine aH rfl o a3 ?_|fail
      exact fin [] _ Z9
     |some f=>
      have aa:cM d x.name=(f,true):=by unfold cM;rw[r]
      rw[aa];have e:=Ll s u f.on hs;have c:=M4 (s:=s) (u:=u) (n:=n) (m:=st) w v c5 r;rw[<-hR]at c;have eB:pgB s d A u (st.met++[x.name]) st.out.length=[.cells [.slice (s.ai.map Ah.C) .no, .str s.query, .str s.av, .slice (d.ops.map Ak.C) .no, .slice (d.aj.map Af.C) .no, .slice (A.map AF.C) .no, .str u, .slice (st.met.map AV.str++[.str x.name]) (.own 0 1), .aa 1 2 st.out.length 0 st.out.length]]:=by unfold pgB wV;rw[map_append];rfl
      have eT:pgT ⟨st.met++[x.name],st.out⟩ = .len (st.met.length+1) :: .aa (cU 1 st.out)::st.out.map λg => .aa (g.O.map Sl.C):=by unfold pgT;rw[length_append];rfl
      cases c4:kV s u f.on with
      |false=>
       rw[c4]at e c;rw[if_neg Wd]at c;have aq:pgB s d A u R.met R.out.length=pgB s d A u (st.met++[x.name]) st.out.length:=by rw[c]
       have ar:pgT R=pgT ⟨st.met++[x.name],st.out⟩:=by rw[c]
       rw[aq,ar,eB,eT]at fin;unfold pgS pgB wV pgT at fin;unfold pgB wV pgT;repeat' first|refine b7 rfl ?_|refine .s1 ?_|(refine .q ?_ ?_<;>intro O)|refine aH rfl o a3 ?_|refine bW (n:=st.met.length) rfl rfl rfl rfl rfl rfl rfl rfl ai rfl Wa Wa rfl ?_|fail
       exact fin [] _ Z9
      |true=>
       rw[c4]at e c;rw[if_pos rfl]at c;obtain⟨hm,a9⟩:=jJ r;have g1:=Ec d st.met hm (by rw[a9];exact c5);have g2:=uU d st.met hm (by rw[a9];exact c5) (λf:Af=>aC Sl.size f.O);rw[a9]at g1 g2;have g3:qK d st=Dq st.out+aC (λf:Af=>aC Sl.size f.O) (gA d st.met):=rfl;have g4:qK d ⟨st.met++[x.name],st.out⟩=Dq st.out+aC (λf:Af=>aC Sl.size f.O) (gA d (st.met++[x.name])):=rfl;have g5:wG d ⟨st.met++[x.name],st.out⟩<=wG d st:=Yd
       cases n with
       |zero=>omega
       |succ q=>
        rw[Vv]at c;have ht:=am q rfl f.O ⟨st.met++[x.name],st.out⟩ Wg om om;rw[<-c]at ht;have p:aE 1 (pgT ⟨st.met++[x.name],st.out⟩).length [.ptr 0 0, .slice (f.O.map Sl.C) .no]=true:=by simp[aE,AV.ab,aD,aZ]
        have af:=uD s d A u (st.met++[x.name]) st.out.length (pgT ⟨st.met++[x.name],st.out⟩).length Xv;have al:=lV 1 ⟨st.met++[x.name],st.out⟩;have ae:(pgT ⟨st.met++[x.name],st.out⟩).length<=(pgT R).length:=by rw[iO,iO];exact(by omega:st.out.length+2<=R.out.length+2)
        unfold pgS at ht;dsimp only at ht;rw[eB,eT]at ht;rw[eT]at p ae;rw[eB,eT]at af;rw[eT]at al;unfold pgB wV pgT;repeat' first|refine b7 rfl ?_|refine .s1 ?_|(refine .q ?_ ?_<;>intro O)|refine aH rfl o a3 ?_|refine bW (n:=st.met.length) rfl rfl rfl rfl rfl rfl rfl rfl ai rfl Wa Wa rfl ?_|refine dE (B:=[]) rfl ht rfl rfl ae af al a1 (lV _ _) p rfl (aB _) ?_|fail
        exact fin [] _ Z9
    ·have e2:(x.kind==1)=false:=by simpa using w
     have i:R=st:=by rw[hR];unfold qD;rw[if_neg YV,if_neg c1,if_neg w,if_neg c3]
     subst i;unfold pgS pgB wV;repeat' first|refine b7 rfl ?_|refine .s1 ?_|(refine .q ?_ ?_<;>intro O)|fail
     exact fin [] _ Z9
  ·have d1:decide ((k:Int)<(l.length:Int))=false:=by simp;omega
   obtain rfl:k=l.length:=om
   rw[take_length];refine .go ?_;exact⟨_,_,rfl,eM _ _,rfl,take_length⟩
termination_by N=>N
decreasing_by omega
def Vw(s:AJ)(d:AR)(A:List AF)(u:AG)(hs:s.size<=1048576)(a:d.aj.length<=1048576)(he:A.length<=1048576):∀(n:Nat) (l:List Sl) (m:Gs),B5 s d A u n l m
 |0,l,m=>M5 s d A u hs a he 0 (λk h=>om) _ l m (le_refl _)
 |n+1,l,m=>M5 s d A u hs a he (n+1) (λk h l m=>(by omega:n=k)▸Vw s d A u hs a he n l m) _ l m (le_refl _)
def Lm(B:List Ob)(a:Tok)(v:AV):∀(done C:List AT),
  AK ⟨B,a :: .aa (done.map AT.C++cU (done.length+1) C)::(done.map (λg=>Tok.len (g.O.length+1))++C.map λg=>Tok.aa (g.O.map Sl.C))⟩ v
   ⟨B,a :: .aa ((done++C).map AT.C)::(done++C).map (λg=>Tok.len (g.O.length+1))⟩ v
 |done,[]=>by
  rw[cU,List.map_nil,List.append_nil,List.append_nil,List.append_nil]
  exact eM _ _
 |done,g::C=>by
  have E:=Lm B a v (done++[g]) C
  refine AK.trans ?_ (by rw[List.append_assoc]at E;exact E)
  have b:(done.map AT.C).length=done.length:=length_map _
  have d:(done.map (λg=>Tok.len (g.O.length+1))).length=done.length:=length_map _
  have hx:(done.map AT.C++cU (done.length+1) (g::C))[done.length]? =some (Cc (done.length+1) g):=by
   rw[List.getElem?_append_right om,b,sub_self,cU];rfl
  have ht:(a::Tok.aa (done.map AT.C++cU (done.length+1) (g::C))::(done.map (λg=>Tok.len (g.O.length+1))++(g::C).map λg=>Tok.aa (g.O.map Sl.C)))[done.length+1+1]? =some (.aa (g.O.map Sl.C)):=by
   rw[List.getElem?_cons_succ,List.getElem?_cons_succ,List.getElem?_append_right om,d,sub_self];rfl
  have e:=cA (H:=⟨B,a::Tok.aa (done.map AT.C++cU (done.length+1) (g::C))::(done.map (λg=>Tok.len (g.O.length+1))++(g::C).map λg=>Tok.aa (g.O.map Sl.C))⟩)
   (k:=done.length+1+1) (z:=7) (n:=g.O.length) (lo:=0) (X:=g.O.length) ht (length_map _) (gJ Wb)
  rw[drop_zero,take_of_length_le Wb]at e
  have f:=cV (z0:=v) (k:=1) (i:=done.length) (c:=1) rfl hx rfl e rfl (gJ Wb)
  have e1:∀(n:Nat) (y:AV),(done.map AT.C++cU n (g::C)).set done.length y=done.map AT.C++(y::cU (n+1) C):=λn y=>by
   rw[List.set_append,if_neg om,b,sub_self,cU];rfl
  have h:∀(y:Tok),(done.map (λg=>Tok.len (g.O.length+1))++(g::C).map λg=>Tok.aa (g.O.map Sl.C)).set done.length y=done.map (λg=>Tok.len (g.O.length+1))++(y::C.map λg=>Tok.aa (g.O.map Sl.C)):=λy=>by
   rw[List.set_append,if_neg om,d,sub_self]
   rfl
  simp only[List.set_cons_succ,List.set_cons_zero,e1,h]at f
  rw[map_append,map_append,List.append_assoc,List.append_assoc,length_append]
  exact f
def UA(s:AJ)(d:AR)(A:List AF)(u:AG)(l:List Sl)(hs:s.size<=1048576)(p:aC (λf:Af=>aC Sl.size f.O) d.aj+aC Sl.size l<=68719476736)(j:d.aj.length<=1048576)(he:A.length<=1048576):
  AN prog 90 [s.C,d.C, .slice (A.map AF.C) .no, .str u, .slice (l.map Sl.C) .no] (.slice ((bF s d A u l).map AT.C) .no):=by
 have e:gA d []=d.aj:=List.filter_eq_self.2 Wb;have c:=Vw s d A u hs j he d.aj.length l ⟨[],[]⟩ (List.length_filter_le _ _) (by
  have:qK d ⟨[],[]⟩=aC (λf:Af=>aC Sl.size f.O) d.aj:=by unfold qK xI;rw[e];simp[Dq,aC]
  omega) (by unfold wG;rw[e];simp only[List.length_nil];omega)
 rw[<-Ux];have b:(pgT ⟨[],[]⟩).length<=(pgT (fJ s d A u d.aj.length l ⟨[],[]⟩)).length:=by rw[iO,iO];simp
 generalize fJ s d A u d.aj.length l ⟨[],[]⟩=R at *
 have h:=uD s d A u [] 0 (pgT ⟨[],[]⟩).length Xv;have i:=uD s d A u R.met R.out.length (pgT R).length Xv;have o:aE 1 (pgT ⟨[],[]⟩).length [.ptr 0 0, .slice (l.map Sl.C) .no]=true:=by simp[aE,AV.ab,aD,aZ]
 unfold pgS at c;have m:=Lm (pgB s d A u R.met R.out.length++[]) (.len R.met.length) (.aa 1 2 R.out.length 0 R.out.length) [] R.out;have a:=cA (H:=⟨pgB s d A u R.met R.out.length++[], .len R.met.length :: .aa (R.out.map AT.C)::R.out.map (λg=>Tok.len (g.O.length+1))⟩) (k:=1) (z:=2) (n:=R.out.length) (lo:=0) (X:=R.out.length) rfl (length_map _) rfl;rw[drop_zero,take_of_length_le Wb]at a;refine jF Xa YP (aS [10] func90 ?_)
 repeat' first|refine AD.bx (v := .agg [_,_,_,_,_,_,_,_,_]) ?_|refine .br ?_|refine lC 0 7 false 1 rfl rfl rfl rfl rfl rfl rfl rfl ?_|refine fV 0 8 rfl rfl (kA (z:=2) rfl rfl rfl) rfl ?_|refine .s1 ?_|(refine .q ?_ ?_<;>intro O)|refine b7 rfl ?_|refine dE (B:=[]) rfl c rfl rfl b h (lV _ _) i (lV _ _) o rfl (aB _) ?_|fail
 exact⟨_,_,rfl,AK.trans m a⟩
def aA7(n:AG):AN prog 160 [.str n] (.bool (uL n)):=by
 refine AI.plain rfl rfl (aS [2] func160 ?_);repeat' first|refine .s1 ?_|(refine .q ?_ ?_<;>intro O)|fail
 all_goals refine aP rfl (AC.eq ?_)
 all_goals simp_all[uL,vA,vB,SW,kY]
def aEH(n:Int):AN prog 167 [.int .i64 n] (zO n).C:=by refine AI.plain (AH.K _) rfl (cE [.cell 2 43] func167 ?_);refine .go ?_;exact aI rfl cF
def M6(n:Int):AN prog 166 [.int .i64 n] (.bool (jB n)):=by
 refine AI.plain rfl rfl (aS [2] func166 ?_);repeat' first|refine .s1 ?_|(refine .q ?_ ?_<;>intro O)|fail
 all_goals refine aP rfl (AC.eq ?_)
 all_goals first|(simp_all[jB];done)|(simp_all[jB];omega)
def UB(name:AG)(l:List AF)(c:l.length<=9223372036854775807):AN prog 39 [.str name, .slice (l.map AF.C) .no] (.tup [(bT name l).1.C, .bool (bT name l).2]):=by
 refine AI.plain W3 W6 (cE [.cell 4 43, .tmp 5] func39 ?_);refine .go ?_;refine AB.loop (λn s H=>∃k:Nat,n=l.length-k/\k<=l.length/\bT name l=bT name (l.drop k)/\H=⟨[.cells fF],[]⟩/\
  s=[(6, .int .i64 k),(1, .slice (l.map AF.C) .no),(0, .str name),(4, .ptr 0 0)])
  (s0:=[(6, .int .i64 (0:Nat)),(1, .slice (l.map AF.C) .no),(0, .str name),(4, .ptr 0 0)])
  Z9 ⟨0,rfl,zero_le _,rfl,rfl,rfl⟩ ?_
 rintro n s H ⟨k,rfl,hk,hp,rfl,rfl⟩;by_cases a:k<l.length
 ·have b:decide ((k:Int)<(l.length:Int))=true:=by simp[a]
  have x1:=aV (f:=AF.C) a
  repeat' first|refine .s1 ?_|(refine .q ?_ ?_<;>intro O)|fail
  ·refine aI rfl (AC.eq ?_);rw[hp,pP a,if_pos O];rfl
  ·refine⟨l.length-(k+1),om,[(6, .int .i64 ((k+1:Nat):Int)),(1, .slice (l.map AF.C) .no),(0, .str name),(4, .ptr 0 0)],
    Z9,by simp[aM,AV.ab,dG],rfl,k+1,rfl,om,Yn,rfl,rfl⟩
 ·have b:decide ((k:Int)<(l.length:Int))=false:=by simp;omega
  refine .go ?_;refine aI rfl ?_;rw[hp,drop_eq_nil_of_le om,bT];exact AC.tup (AA.cons cF (aB _))
def aCf(r:Row)(name:AG)(b:r.aq.length<=9223372036854775807):AN prog 93 [r.C, .str name] (iC r name).C:=by
 refine AI.plain (AH.K _) (by simp[aA,AV.K,Row.K]) (cE [.cell 4 43] func93 ?_);have a:=UB name r.aq b;repeat' first|refine cW rfl rfl ?_|refine .s1 ?_|(refine .q ?_ ?_<;>intro O)|refine aH rfl a (aB _) ?_|fail
 exact aO
def M7(l:List AY)(name:AG)(c:l.length<=9223372036854775807):AN prog 241 [Tbls.C l, .str name] (.int .i64 (bG (λt:AY=>t.name==name) l 0)):=by
 refine AI.plain rfl (by simp[aA,AV.K,Tbls.K]) (aS [4] func241 ?_);refine .go ?_;refine AB.loop (λn s H=>∃k:Nat,n=l.length-k/\k<=l.length/\bG (λt:AY=>t.name==name) l 0=bG (λt:AY=>t.name==name) (l.drop k) k/\H=⟨[],[]⟩/\
  s=[(5, .int .i64 k),(0,Tbls.C l),(1, .str name)])
  (s0:=[(5, .int .i64 (0:Nat)),(0,Tbls.C l),(1, .str name)])
  Z9 ⟨0,rfl,zero_le _,rfl,rfl,rfl⟩ ?_
 rintro n s H ⟨k,rfl,hk,hp,rfl,rfl⟩;by_cases a:k<l.length
 ·have b:decide ((k:Int)<(l.length:Int))=true:=by simp[a]
  have x1:=aV (f:=AY.C) a
  repeat' first|refine .s1 ?_|(refine .q ?_ ?_<;>intro O)|fail
  ·refine aP rfl (AC.eq ?_);rw[hp,cR a,if_pos O]
  ·refine⟨l.length-(k+1),om,[(5, .int .i64 ((k+1:Nat):Int)),(0,Tbls.C l),(1, .str name)],
    Z9,WL,rfl,k+1,rfl,om,XB,rfl,rfl⟩
 ·have b:decide ((k:Int)<(l.length:Int))=false:=by simp;omega
  refine .go ?_;refine aP rfl (AC.eq ?_);rw[hp,drop_eq_nil_of_le om,bG]
def aA8(l:List Row)(name:AG)(c:l.length<=9223372036854775807):AN prog 242 [.slice (l.map Row.C) .no, .str name] (.int .i64 (bG (λr:Row=>r.key==name) l 0)):=by
 refine AI.plain rfl (by simp[aA,AV.K,mN]) (aS [4] func242 ?_);refine .go ?_;refine AB.loop (λn s H=>∃k:Nat,n=l.length-k/\k<=l.length/\bG (λr:Row=>r.key==name) l 0=bG (λr:Row=>r.key==name) (l.drop k) k/\H=⟨[],[]⟩/\
  s=[(5, .int .i64 k),(0, .slice (l.map Row.C) .no),(1, .str name)])
  (s0:=[(5, .int .i64 (0:Nat)),(0, .slice (l.map Row.C) .no),(1, .str name)])
  Z9 ⟨0,rfl,zero_le _,rfl,rfl,rfl⟩ ?_
 rintro n s H ⟨k,rfl,hk,hp,rfl,rfl⟩;by_cases a:k<l.length
 ·have b:decide ((k:Int)<(l.length:Int))=true:=by simp[a]
  have x1:=aV (f:=Row.C) a
  repeat' first|refine .s1 ?_|(refine .q ?_ ?_<;>intro O)|fail
  ·refine aP rfl (AC.eq ?_);rw[hp,cR a,if_pos O]
  ·refine⟨l.length-(k+1),om,[(5, .int .i64 ((k+1:Nat):Int)),(0, .slice (l.map Row.C) .no),(1, .str name)],
    Z9,by simp[aM,AV.ab,gH],rfl,k+1,rfl,om,XB,rfl,rfl⟩
 ·have b:decide ((k:Int)<(l.length:Int))=false:=by simp;omega
  refine .go ?_;refine aP rfl (AC.eq ?_);rw[hp,drop_eq_nil_of_le om,bG]
def Vx(l:List AY)(n:Ae)(d:l.length<=9223372036854775807)(hr:∀t∈l,t.ag.length<=9223372036854775807):
  AN prog 161 [Tbls.C l,n.C] (cP l n).C:=by
 refine AI.plain (Bt.K _) (by simp[aA,Tbls.K,Ae.K]) (cE [.cell 4 92] func161 ?_);have hp:=M7 l n.table d;rcases eN (λt:AY=>t.name==n.table) l 0 with⟨c,a⟩|⟨i,X,c,a⟩
 ·rw[c]at hp;repeat' first|refine cW rfl rfl ?_|refine .s1 ?_|(refine .q ?_ ?_<;>intro O)|refine aH rfl hp (aB _) ?_|fail
  refine aI rfl ?_;have e:cP l n=qU:=by rw[cP,a]
  rw[e];exact oK (r:=qS) rfl
 ·rw[c]at hp;simp only[zero_add]at hp;have b:=aA8 l[i].ag n.key (hr _ (getElem_mem X));have x1:=aV (f:=AY.C) X;rcases eN (λr:Row=>r.key==n.key) l[i].ag 0 with⟨h3,h4⟩|⟨k,hk,h3,h4⟩
  ·rw[h3]at b;repeat' first|refine cW rfl rfl ?_|refine .s1 ?_|(refine .q ?_ ?_<;>intro O)|refine aH rfl hp (aB _) ?_|refine aH rfl b (aB _) ?_|fail
   refine aI rfl ?_;have e:cP l n=qU:=by rw[cP,a];simp only[h4]
   rw[e];exact oK (r:=qS) rfl
  ·rw[h3]at b;simp only[zero_add]at b;have g:=aV (f:=Row.C) hk;repeat' first|refine cW rfl rfl ?_|refine .s1 ?_|(refine .q ?_ ?_<;>intro O)|refine aH rfl hp (aB _) ?_|refine aH rfl b (aB _) ?_|fail
   all_goals refine aI rfl ?_
   ·have e:cP l n=⟨qS,false,10⟩:=by rw[cP,a];simp only[h4,EZ];rw[if_pos O]
    rw[e];exact oK (r:=qS) rfl
   ·have e:cP l n=⟨l[i].ag[k],true,0⟩:=by rw[cP,a];simp only[h4,EZ];rw[if_neg WG]
    rw[e];exact oK rfl
theorem IC{α:Type}{p:α->Bool}{l:List α}(h:k<l.length):qJ p (l.drop k)=if p l[k] then some 0 else (qJ p (l.drop (k+1))).map (· +1):=by rw[List.drop_eq_getElem_cons h,qJ]
def aA9(l:List AF)(m:AF)(d:l.length<=1048576):AN prog 162 [.slice (l.map AF.C) .no,m.C] (.slice ((oY l m.name m.v).map AF.C) .no):=by
 refine jF Zu (by simp[aA,AV.K,aR,AF.K]) (aS [4] func162 ?_);have a:(l.map AF.C).length=l.length:=Wb
 repeat' first|refine cW rfl rfl ?_|refine .s1 ?_|(refine .q ?_ ?_<;>intro O)|refine dJ (m:=l.length) rfl rfl rfl rfl rfl rfl rfl rfl (z6 l) a Wg om rfl ?_|fail
 change AB _ _ _ _ _ _ _;refine AB.loop (λn s H=>∃k:Nat,n=l.length-k/\k<=l.length/\qJ (λx:AF=>x.name==m.name) l=(qJ (λx:AF=>x.name==m.name) (l.drop k)).map (· +k)/\H=⟨[],[.aa (l.map AF.C)]⟩/\
  s=[(6, .int .i64 k),(5, .aa 0 6 l.length 0 l.length),(3, .ac m.C)])
  (s0:=[(6, .int .i64 (0:Nat)),(5, .aa 0 6 l.length 0 l.length),(3, .ac m.C)])
  Z9 ⟨0,rfl,zero_le _,Wb,rfl,rfl⟩ ?_
 rintro n s H ⟨k,rfl,hk,hp,rfl,rfl⟩;by_cases b:k<l.length
 ·have c:decide ((k:Int)<((l.length-0:Nat):Int))=true:=by simp[b]
  have x1:=aV (f:=AF.C) b
  repeat' first|refine .s1 ?_|(refine .q ?_ ?_<;>intro O)|refine fI rfl rfl rfl rfl rfl rfl rfl Wh (zero_add _) ?_|refine j4 rfl rfl rfl rfl rfl rfl ?_|refine fD rfl rfl rfl Wh Wh rfl ?_|refine jE rfl rfl rfl rfl ?_|refine bC (agg:=true) rfl rfl rfl rfl rfl a x1 rfl rfl rfl rfl ?_|fail
  ·refine⟨_,_,rfl,(cA rfl Wb rfl).trans (AK.a7 (AC.no (AA.eq ?_)))⟩;have e:oY l m.name m.v=l.set k (.mk l[k].name m.v):=by unfold oY;rw[hp,IC b,if_pos O];simp only[Option.map_some,zero_add];exact sM b _
   rw[e,drop_zero,take_of_length_le Wb,map_set];rfl
  ·refine⟨l.length-(k+1),om,[(6, .int .i64 ((k+1:Nat):Int)),(5, .aa 0 6 l.length 0 l.length),(3, .ac m.C)],
    Z9,by simp[aM,AV.ab,AF.C,aE,mG,mI],by simp[aQ,aL,Tok.ab,dG],k+1,rfl,om, ?_,rfl,rfl⟩
   rw[hp,IC b,if_neg WG,Option.map_map]
   congr 1
   funext x
   simp;omega
 ·have c:decide ((k:Int)<((l.length-0:Nat):Int))=false:=by simp;omega
  repeat' first|refine .s1 ?_|(refine .q ?_ ?_<;>intro O)|refine fI rfl rfl rfl rfl rfl rfl rfl Wh (zero_add _) ?_|refine j4 rfl rfl rfl rfl rfl rfl ?_|refine fD rfl rfl rfl Wh Wh rfl ?_|refine jE rfl rfl rfl rfl ?_|refine eG (m:=l.length+1) rfl rfl rfl rfl rfl rfl rfl rfl a rfl rfl Wg om rfl ?_|fail
  refine⟨_,_,rfl,(cA rfl Wb rfl).trans (AK.a7 (AC.no (AA.eq ?_)))⟩;have e:oY l m.name m.v=l++[.mk m.name m.v]:=by unfold oY;rw[hp,drop_eq_nil_of_le om,qJ];rfl
  rw[e,drop_zero,take_of_length_le Wb,map_append];rfl
def P3(s:AJ)(d:AR)(A:List AF)(L:List AY)(n:Nat):List AV:=[.slice (s.ai.map Ah.C) .no, .str s.query, .str s.av, .slice (d.ops.map Ak.C) .no, .slice (d.aj.map Af.C) .no, .slice (A.map AF.C) .no,Tbls.C L, .slice [] .nil, .slice [] .nil, .int .i64 n, .int .i64 400]
def cnB(s:AJ)(d:AR)(A:List AF)(st:BG):List Ob:=[.cells (P3 s d A st.L st.n)]
theorem gP(s:AJ)(d:AR)(A:List AF)(st:BG)(n m:Nat):aQ n m (cnB s d A st)=true:=by simp[cnB,P3,aQ,Ob.ab,aE,AV.ab,aF,aD,iS,kD,uR,aR,Tbls.K]
def CX(s:AJ)(d:AR)(A:List AF)(N:Nat)(pl:BP):Prop:=∀u row w st,DZ s u->BT st.L->BQ row->Ai w st.n->st.n<=400->401<=N+st.n->
 AI prog 41 [.ptr 0 0, .str u,row.C, .slice (w.map Sl.C) .no] ⟨cnB s d A st,[]⟩ (λe Y=>e = .ret (.tup [])/\Y=⟨cnB s d A (pl u row w st),[]⟩)
theorem UC(s:AJ)(pl:BP)(tb:AG)(w:List Sl)(v:AH)(t:Ac)(st:BG):oM s pl tb w v t st=
  if 400<st.n+1 then ⟨st.L,st.n+1⟩
  else if (fU t).2=true then lM s pl tb w v.l (cB t) ⟨st.L,st.n+1⟩
  else if v.kind≠4\/g8 s t.name=false then ⟨st.L,st.n+1⟩
  else if (cP st.L ⟨tb,v.s⟩).is=true/\(cP st.L ⟨tb,v.s⟩).row.aw∈jG s t.name then pl (cP st.L ⟨tb,v.s⟩).row.aw (cP st.L ⟨tb,v.s⟩).row w ⟨st.L,st.n+1⟩ else ⟨st.L,st.n+1⟩:=by cases v;rw[oM];rfl
def aCg(s:AJ)(d:AR)(A:List AF)(hs:s.size<=1048576)(pl:BP)(B:Nat)(hB:B<=2305843009213693952)(hp:CO s pl B)(hup:BM pl)(N0:Nat)(O:CX s d A N0 pl)(tb:AG)(w:List Sl):∀(N:Nat) (v:AH),v.size<=N->rC v->∀(t:Ac) (st:BG),t.name.length<=68719476736->Ap s t.name->BT st.L->Ai w st.n->st.n<=4611686018427387904->401<=N0+st.n+1->
  AI prog 96 [.ptr 0 0,t.C,v.C, .str tb, .slice (w.map Sl.C) .no] ⟨cnB s d A st,[]⟩ (λe Y=>e = .ret (.tup [])/\Y=⟨cnB s d A (oM s pl tb w v t st),[]⟩)
 |N,v,hv,z,t,st,ht,hr,hT,hS,hn,hM=>by
  refine gI (nB:=1) (mT:=0) (aS [] func96 ?_) (le_refl _) (le_refl _) rfl (gP _ _ _ _ _ _) rfl;rw[UC];have ab:=KX t om;by_cases c1:400<st.n+1
  ·have e1:decide ((400:Int)<(st.n:Int)+1)=true:=decide_eq_true om;rw[if_pos c1];unfold cnB P3;repeat' first|refine .br ?_|refine b7 rfl ?_|refine .s1 ?_|(refine .q ?_ ?_<;>intro O)|fail
   exact⟨_,_,rfl,eM _ _,rfl,rfl⟩
  have e1:decide ((400:Int)<(st.n:Int)+1)=false:=decide_eq_false om;rw[if_neg c1];unfold cnB P3;repeat' first|refine .br ?_|refine b7 rfl ?_|refine Df (x := .region 3 _ _) 10 (gP s d A ⟨st.L,st.n+1⟩ 1 0) rfl ?_|refine bJ (d:=10) rfl rfl rfl rfl rfl ?_|refine .s1 ?_|(refine .q ?_ ?_<;>intro O)|refine bC (agg:=true) rfl rfl rfl rfl rfl rfl rfl rfl rfl rfl rfl ?_|fail
  refine⟨_,_,_,[(10, .ac (fU t).1.C),(11, .bool (fU t).2),(7, .ac v.C),(6, .ac t.C),(3, .str tb),(4, .slice (w.map Sl.C) .no),(0, .ptr 0 0)],rfl,bE rfl rfl rfl rfl,Z9,by simp[aM,AV.ab,aF,aD,Ac.K,AH.K,aZ], ?_⟩;show AB _ _ _ _ _ _ ⟨cnB s d A ⟨st.L,st.n+1⟩,[]⟩;by_cases f:(fU t).2=true
  ·have u:(fU t).1=cB t:=by unfold fU at f ⊢; split at f<;>simp_all
   rw[u,f,if_pos rfl];have b:=lP.1 z;refine .go ?_;refine fX v.l AH.C (λj=>[(12, .int .i64 j),(10, .ac (cB t).C),(7, .ac v.C),(3, .str tb),(4, .slice (w.map Sl.C) .no),(0, .ptr 0 0)]) (λj=>⟨cnB s d A (lM s pl tb w (v.l.take j) (cB t) ⟨st.L,st.n+1⟩),[]⟩) (λ_=>True) trivial (λj r p x1 _=> ?_) (λp _=> ?_) (hz:=by rw[List.take_zero,lM])
   ·rw[<-v.b1]at x1;rw[<-v.bb]at p;have ac:=dK r;have y:JE (v.l.take j):=GH.2 λx hx=>b.2.2.2.1 x (List.mem_of_mem_take hx)
    obtain⟨n2,n3⟩:=Ms s pl hup B hp tb w st.n hS (v.l.take j) (cB t) ⟨st.L,st.n+1⟩ hr y hT (Nat.le_succ _);have n1:=Nt s pl hp.same tb w (v.l.take j) (cB t) ⟨st.L,st.n+1⟩ hr;have n4:=Fm s pl hup tb w (v.l.take j) (cB t) ⟨st.L,st.n+1⟩;have n5:(v.l.take j).length<=v.l.length:=by rw[List.length_take];omega
    have a:=aCg s d A hs pl B hB hp hup N0 O tb w (N-1) v.l[j] om (b.2.2.2.1 _ (getElem_mem r)) (cB t) (lM s pl tb w (v.l.take j) (cB t) ⟨st.L,st.n+1⟩) ht hr (by rw[n1];exact hT) (F5 hS (by dsimp only at n4;omega)) (by
     dsimp only at n2 n3;by_cases h5:400<=st.n+1
     ·have:=n2 h5;omega
     ·have:=n3 om;omega) (by dsimp only at n4;omega)
    have hM:oM s pl tb w v.l[j] (cB t) (lM s pl tb w (v.l.take j) (cB t) ⟨st.L,st.n+1⟩)=lM s pl tb w (v.l.take (j+1)) (cB t) ⟨st.L,st.n+1⟩:=by rw[List.take_succ_eq_append_getElem r,H8]
    rw[hM]at a;have o:=gP s d A (lM s pl tb w (v.l.take j) (cB t) ⟨st.L,st.n+1⟩) 1 0;have k:=gP s d A (lM s pl tb w (v.l.take (j+1)) (cB t) ⟨st.L,st.n+1⟩) 1 0;have b2:=gP s d A (lM s pl tb w (v.l.take (j+1)) (cB t) ⟨st.L,st.n+1⟩) 2 0;have c:aE 1 0 [.ptr 0 0,(cB t).C,v.l[j].C, .str tb, .slice (w.map Sl.C) .no]=true:=Za
    repeat' first|refine b7 rfl ?_|refine .s1 ?_|(refine .q ?_ ?_<;>intro O)|refine dE (B:=[]) rfl a rfl rfl (le_refl _) o rfl k rfl c rfl (aB _) ?_|fail
    exact nz trivial (hb:=by show aM 1 0 _=true;simp[aM,AV.ab,aF,aD,Ac.K,AH.K,aZ]) (h3:=by show (aQ 1 0 (cnB s d A _)&&true)=true;rw[k];rfl)
   ·have d2:decide ((v.l.length:Int)<(v.lv.length:Int))=false:=by rw[v.bb];exact p
    rw[take_length];refine .go ?_;exact⟨_,_,rfl,eM _ _,rfl,rfl⟩
  rw[Bool.not_eq_true]at f;rw[f,if_neg Wd];have i:=MP s t.name hs;by_cases m:v.kind≠4
  ·have e3:(v.kind != 4)=true:=by simpa using m
   rw[if_pos (.inl m)];repeat' first|refine b7 rfl ?_|refine .s1 ?_|(refine .q ?_ ?_<;>intro O)|fail
   exact⟨_,_,rfl,eM _ _,rfl,rfl⟩
  have e3:(v.kind != 4)=false:=by simpa using m
  cases c4:g8 s t.name with
  |false=>
   rw[c4]at i;rw[if_pos (.inr rfl)];repeat' first|refine b7 rfl ?_|refine .s1 ?_|(refine .q ?_ ?_<;>intro O)|fail
   exact⟨_,_,rfl,eM _ _,rfl,rfl⟩
  |true=>
   rw[c4]at i;rw[if_neg (by simp[m])];have hF:=Vx st.L ⟨tb,v.s⟩ YI (λt ht=>Y0);have hrow:=F4 hT ⟨tb,v.s⟩;generalize cP st.L ⟨tb,v.s⟩=G at *;have hP:=uA s t.name hs;have hH:=Cv (jG s t.name) G.row.aw (by have:=sT s t.name om;omega);repeat' first|refine .br ?_|refine b7 rfl ?_|refine Df (x := .region 10 _ _) 13 (gP s d A ⟨st.L,st.n+1⟩ 1 0) rfl ?_|refine bJ (d:=13) rfl rfl rfl rfl rfl ?_|refine .s1 ?_|(refine .q ?_ ?_<;>intro O)|refine bC (agg:=true) rfl rfl rfl rfl rfl rfl rfl rfl rfl rfl rfl ?_|fail
   refine⟨_,_,_,[(13, .ac G.C),(7, .ac v.C),(6, .ac t.C),(3, .str tb),(4, .slice (w.map Sl.C) .no),(0, .ptr 0 0)],rfl,bE rfl rfl rfl rfl,Z9,by show aM 1 0 _=true;simp[aM,AV.ab,aF,aD,Ac.K,AH.K,Bt.K,aZ], ?_⟩;show AB _ _ _ _ _ _ ⟨cnB s d A ⟨st.L,st.n+1⟩,[]⟩;by_cases g:G.is=true/\G.row.aw∈jG s t.name
   ·rw[if_pos g];have a:=O G.row.aw G.row w ⟨st.L,st.n+1⟩ (hr _ g.2) hT hrow (F5 hS Wg) Wg Wg;generalize hR:pl G.row.aw G.row w ⟨st.L,st.n+1⟩=R at *;have o:=gP s d A ⟨st.L,st.n+1⟩ 1 0;have k:=gP s d A R 1 0;have c:aE 1 0 [.ptr 0 0, .str G.row.aw,G.row.C, .slice (w.map Sl.C) .no]=true:=by simp[aE,AV.ab,aF,Row.K,aD,aZ]
    rw[decide_eq_true g.2]at hH;repeat' first|refine b7 rfl ?_|refine .s1 ?_|(refine .q ?_ ?_<;>intro O)|refine dE (B:=[]) rfl a rfl rfl (le_refl _) o rfl k rfl c rfl (aB _) ?_|fail
    all_goals first|exact⟨_,_,rfl,eM _ _,rfl,rfl⟩|simp_all
   ·rw[if_neg g];cases c6:G.is with
    |false=>
     repeat' first|refine b7 rfl ?_|refine .s1 ?_|(refine .q ?_ ?_<;>intro O)|fail
     exact⟨_,_,rfl,eM _ _,rfl,rfl⟩
    |true=>
     rw[decide_eq_false (λh=>g ⟨c6,h⟩)]at hH;repeat' first|refine b7 rfl ?_|refine .s1 ?_|(refine .q ?_ ?_<;>intro O)|fail
     exact⟨_,_,rfl,eM _ _,rfl,rfl⟩
termination_by N=>N
decreasing_by have:=v.au;omega
def aAa(f:Ag)(b:BO)(args:List AF):AN prog 95 [f.C,b.C, .slice (args.map AF.C) .no] (o9 f b args).C:=by refine AI.plain (BF.K _) (by simp[aA,AV.K,Ag.K,BO.K,aR]) (cE [.cell 6 176] func95 ?_);refine .ae ?_;exact aO
def OF{x y:AV}(h:AC x y):∀ {xs:List AV} (i:Nat),AA (xs.set i x) (xs.set i y)
 |[],i=>aB _
 |z::xs,0=>AA.cons h (aB _)
 |z::xs,i+1=>AA.cons (aG _) (OF h i)
def aCh(l:List AY)(name:AG)(r:Row)(v:l.length<=1048576)(hr:∀t∈l,t.ag.length<=1048576):
  AN prog 163 [Tbls.C l, .str name,r.C] (Tbls.C (sN l name r)):=by
 refine jF (Tbls.K _) Zj (aS [6] func163 ?_);have hp:=M7 l name om;have a:(l.map AY.C).length=l.length:=Wb
 rcases mO (λt:AY=>t.name==name) l 0 with⟨n,o⟩|⟨i,X,n,o,h0⟩
 ·rw[n]at hp;repeat' first|refine cW rfl rfl ?_|refine .seq ?_|refine .rg ?_|refine .rd ?_|refine .block ?_|refine .scope ?_|refine .skip ?_|refine .label ?_|refine .exit ?_|refine .ret ?_|refine .ct ?_|refine .cf ?_|refine .cy ?_|refine .cn ?_|(refine .cond rfl ?_ ?_<;>intro O)|refine cT ?_|refine .nl ?_|refine .dd ?_|refine .ys ?_|refine .no ?_|(refine fH rfl ?_ ?_<;>intro O)|refine .lb ?_|refine .ln ?_|refine .ls ?_|refine .pv ?_|refine .ix ?_|refine .pt ?_|refine .pf ?_|refine .bx ?_|refine .al ?_|refine .st ?_|refine .ad ?_|refine .sb ?_|refine .mf ?_|refine .cl ?_|refine .cw ?_|refine .ck ?_|refine dJ (m:=l.length) rfl rfl rfl rfl rfl rfl rfl rfl (nX l) a Wg om rfl ?_|refine aH rfl hp (aB _) ?_|refine eG (m:=l.length+1) rfl rfl rfl rfl rfl rfl rfl rfl a rfl rfl Wg om rfl ?_|fail
  refine⟨_,_,rfl,(cA rfl Wb rfl).trans (AK.a7 (AC.no ?_))⟩;have e:sN l name r=l++[⟨name,[r]⟩]:=by unfold sN;rw[o]
  rw[e,drop_zero,take_of_length_le Wb,map_append];exact QT (aB _) OV
 ·rw[n]at hp;simp only[zero_add]at hp;have x1:=aV (f:=AY.C) X;have p:=hr _ (getElem_mem X);have j:=aA8 l[i].ag r.key om;have d:(l[i].ag.map Row.C).length=l[i].ag.length:=by simp
  have e:sN l name r=l.set i ⟨l[i].name,iX l[i].ag r⟩:=by unfold sN;rw[o];exact sM X _
  have b:Al ⟨[],[.aa (l.map AY.C), .aa (l[i].ag.map Row.C)]⟩ [.aa 1 4 l[i].ag.length 0 l[i].ag.length, .str r.key] [.slice (l[i].ag.map Row.C) .no, .str r.key]:=
   Al.cons (A1.a7 (aG _) (by have h:=A1.aa (H:=⟨[],[.aa (l.map AY.C), .aa (l[i].ag.map Row.C)]⟩) (k:=1) (z:=4) (lo:=0) (X:=l[i].ag.length) rfl d (Al.K (mN _));rwa [drop_zero,take_of_length_le om]at h)) (Al.cons (A1.K rfl) Al.nil)
  rcases mO (λx:Row=>x.key==r.key) l[i].ag 0 with⟨h3,h4⟩|⟨k,hk,h3,h4,h5⟩
  ·rw[h3]at j;have g:iX l[i].ag r=l[i].ag++[r]:=by unfold iX;rw[h4]
   repeat' first|refine cW rfl rfl ?_|refine .seq ?_|refine .rg ?_|refine .rd ?_|refine .block ?_|refine .scope ?_|refine .skip ?_|refine .label ?_|refine .exit ?_|refine .ret ?_|refine .ct ?_|refine .cf ?_|refine .cy ?_|refine .cn ?_|(refine .cond rfl ?_ ?_<;>intro O)|refine cT ?_|refine .nl ?_|refine .dd ?_|refine .ys ?_|refine .no ?_|(refine fH rfl ?_ ?_<;>intro O)|refine .lb ?_|refine .ln ?_|refine .ls ?_|refine .pv ?_|refine .ix ?_|refine .pt ?_|refine .pf ?_|refine .bx ?_|refine .al ?_|refine .st ?_|refine .ad ?_|refine .sb ?_|refine .mf ?_|refine .cl ?_|refine .cw ?_|refine .ck ?_|refine dJ (m:=l.length) rfl rfl rfl rfl rfl rfl rfl rfl (nX l) a Wg om rfl ?_|refine aH rfl hp (aB _) ?_|refine xN rfl j b rfl ?_|refine dJ (m:=l[i].ag.length) rfl rfl rfl rfl rfl rfl rfl rfl (oJ _) d Wg om rfl ?_|refine fI rfl rfl rfl rfl rfl rfl rfl Wh (zero_add _) ?_|refine j4 rfl rfl rfl rfl rfl rfl ?_|refine fD rfl rfl rfl Wh Wh rfl ?_|refine jE rfl rfl rfl rfl ?_|refine eG (m:=l[i].ag.length+1) rfl rfl rfl rfl rfl rfl rfl rfl d rfl rfl Wg om rfl ?_|refine bC (agg:=true) rfl rfl rfl rfl rfl a x1 rfl rfl rfl rfl ?_|fail
   refine⟨_,_,rfl,(cV (k:=0) (i:=i) (c:=1) rfl Zr rfl (cA rfl Wb rfl) rfl rfl).trans ((cA rfl Wb rfl).trans (AK.a7 (AC.no (AA.eq ?_))))⟩;rw[e,g,drop_zero,take_of_length_le Wb,set_set,map_set];congr 1;simp only[AY.C,List.set_cons_succ,List.set_cons_zero,drop_zero,map_append,List.map_cons,List.map_nil];rw[take_of_length_le Wb];rfl
  ·rw[h3]at j;simp only[zero_add]at j;have q:=aV (f:=Row.C) hk;have u:decide ((k:Int)<0)=false:=by simp
   have g:iX l[i].ag r=l[i].ag.set k r:=by unfold iX;rw[h4]
   repeat' first|refine cW rfl rfl ?_|refine .seq ?_|refine .rg ?_|refine .rd ?_|refine .block ?_|refine .scope ?_|refine .skip ?_|refine .label ?_|refine .exit ?_|refine .ret ?_|refine .ct ?_|refine .cf ?_|refine .cy ?_|refine .cn ?_|(refine .cond rfl ?_ ?_<;>intro O)|refine cT ?_|refine .nl ?_|refine .dd ?_|refine .ys ?_|refine .no ?_|(refine fH rfl ?_ ?_<;>intro O)|refine .lb ?_|refine .ln ?_|refine .ls ?_|refine .pv ?_|refine .ix ?_|refine .pt ?_|refine .pf ?_|refine .bx ?_|refine .al ?_|refine .st ?_|refine .ad ?_|refine .sb ?_|refine .mf ?_|refine .cl ?_|refine .cw ?_|refine .ck ?_|refine dJ (m:=l.length) rfl rfl rfl rfl rfl rfl rfl rfl (nX l) a Wg om rfl ?_|refine aH rfl hp (aB _) ?_|refine xN rfl j b rfl ?_|refine dJ (m:=l[i].ag.length) rfl rfl rfl rfl rfl rfl rfl rfl (oJ _) d Wg om rfl ?_|refine fI rfl rfl rfl rfl rfl rfl rfl Wh (zero_add _) ?_|refine j4 rfl rfl rfl rfl rfl rfl ?_|refine fD rfl rfl rfl Wh Wh rfl ?_|refine jE rfl rfl rfl rfl ?_|refine bC (agg:=true) rfl rfl rfl rfl rfl d q rfl rfl rfl rfl ?_|refine bC (agg:=true) rfl rfl rfl rfl rfl a x1 rfl rfl rfl rfl ?_|fail
   refine⟨_,_,rfl,(cV (k:=0) (i:=i) (c:=1) rfl Zr rfl (cA rfl Wb rfl) rfl rfl).trans ((cA rfl Wb rfl).trans (AK.a7 (AC.no (AA.eq ?_))))⟩;rw[e,g,drop_zero,take_of_length_le Wb,set_set,map_set];congr 1;simp only[AY.C,List.set_cons_succ,List.set_cons_zero,drop_zero,map_set];rw[take_of_length_le Wb];rfl
def aEI(l:List AY)(name a:AG)(w:l.length<=1048576)(hr:∀t∈l,t.ag.length<=1048576):
  AN prog 165 [Tbls.C l, .str name, .str a] (Tbls.C (w8 l name a)):=by
 refine jF (Tbls.K _) Yk (aS [6] func165 ?_);have hp:=M7 l name om;have b:(l.map AY.C).length=l.length:=Wb
 rcases mO (λt:AY=>t.name==name) l 0 with⟨o,p⟩|⟨i,X,o,p,h0⟩
 ·rw[o]at hp;have e:w8 l name a=l:=by unfold w8;rw[p]
  rw[e];repeat' first|refine .seq ?_|refine .rg ?_|refine .rd ?_|refine .block ?_|refine .scope ?_|refine .skip ?_|refine .label ?_|refine .exit ?_|refine .ret ?_|refine .ct ?_|refine .cf ?_|refine .cy ?_|refine .cn ?_|(refine .cond rfl ?_ ?_<;>intro O)|refine cT ?_|refine .nl ?_|refine .dd ?_|refine .ys ?_|refine .no ?_|(refine fH rfl ?_ ?_<;>intro O)|refine .lb ?_|refine .ln ?_|refine .ls ?_|refine .pv ?_|refine .ix ?_|refine .pt ?_|refine .pf ?_|refine .bx ?_|refine .al ?_|refine .st ?_|refine .ad ?_|refine .sb ?_|refine .mf ?_|refine .cl ?_|refine .cw ?_|refine .ck ?_|refine dJ (m:=l.length) rfl rfl rfl rfl rfl rfl rfl rfl (nX l) b Wg om rfl ?_|refine aH rfl hp (aB _) ?_|fail
  refine⟨_,_,rfl,(cA rfl Wb rfl).trans (AK.a7 (AC.no (AA.eq ?_)))⟩;rw[drop_zero,take_of_length_le Wb]
 ·rw[o]at hp;simp only[zero_add]at hp;have x1:=aV (f:=AY.C) X;have v:=hr _ (getElem_mem X);have j:=aA8 l[i].ag a om;have g:(l[i].ag.map Row.C).length=l[i].ag.length:=by simp
  have e:w8 l name a=l.set i ⟨l[i].name,jA l[i].ag a⟩:=by unfold w8;rw[p];exact sM X _
  rcases mO (λx:Row=>x.key==a) l[i].ag 0 with⟨h3,h4⟩|⟨k,hk,h3,h4,h5⟩
  ·rw[h3]at j;have d:jA l[i].ag a=l[i].ag:=by unfold jA;rw[h4]
   repeat' first|refine .seq ?_|refine .rg ?_|refine .rd ?_|refine .block ?_|refine .scope ?_|refine .skip ?_|refine .label ?_|refine .exit ?_|refine .ret ?_|refine .ct ?_|refine .cf ?_|refine .cy ?_|refine .cn ?_|(refine .cond rfl ?_ ?_<;>intro O)|refine cT ?_|refine .nl ?_|refine .dd ?_|refine .ys ?_|refine .no ?_|(refine fH rfl ?_ ?_<;>intro O)|refine .lb ?_|refine .ln ?_|refine .ls ?_|refine .pv ?_|refine .ix ?_|refine .pt ?_|refine .pf ?_|refine .bx ?_|refine .al ?_|refine .st ?_|refine .ad ?_|refine .sb ?_|refine .mf ?_|refine .cl ?_|refine .cw ?_|refine .ck ?_|refine dJ (m:=l.length) rfl rfl rfl rfl rfl rfl rfl rfl (nX l) b Wg om rfl ?_|refine aH rfl hp (aB _) ?_|refine aH rfl j (aB _) ?_|fail
   refine⟨_,_,rfl,(cA rfl Wb rfl).trans (AK.a7 (AC.no (AA.eq ?_)))⟩;rw[e,d,drop_zero,take_of_length_le Wb];have:l.set i ⟨l[i].name,l[i].ag⟩=l:=by rw[show (⟨l[i].name,l[i].ag⟩:AY)=l[i] by cases l[i];rfl];exact List.set_getElem_self X
   rw[this]
  ·rw[h3]at j;simp only[zero_add]at j;have d:jA l[i].ag a=l[i].ag.take k++l[i].ag.drop (k+1):=by unfold jA;rw[h4]
   have c:(((l[i].ag.map Row.C).take k).drop 0).length=k:=Wl
   have u:((k:Int)+1)=((k+1:Nat):Int):=Wb
   have q:Av.eK true 4 (((l[i].ag.map Row.C).take k).drop 0)=true:=by rw[drop_zero, <-List.map_take];exact oJ _
   have r:Av.eK true 4 (((l[i].ag.map Row.C).take l[i].ag.length).drop (k+1))=true:=by rw[<-List.map_take, <-List.map_drop];exact oJ _
   have h:(((l[i].ag.map Row.C).take l[i].ag.length).drop (k+1)).length=l[i].ag.length-(k+1):=Wb
   repeat' first|refine .seq ?_|refine .rg ?_|refine .rd ?_|refine .block ?_|refine .scope ?_|refine .skip ?_|refine .label ?_|refine .exit ?_|refine .ret ?_|refine .ct ?_|refine .cf ?_|refine .cy ?_|refine .cn ?_|(refine .cond rfl ?_ ?_<;>intro O)|refine cT ?_|refine .nl ?_|refine .dd ?_|refine .ys ?_|refine .no ?_|(refine fH rfl ?_ ?_<;>intro O)|refine .lb ?_|refine .ln ?_|refine .ls ?_|refine .pv ?_|refine .ix ?_|refine .pt ?_|refine .pf ?_|refine .bx ?_|refine .al ?_|refine .st ?_|refine .ad ?_|refine .sb ?_|refine .mf ?_|refine .cl ?_|refine .cw ?_|refine .ck ?_|refine dJ (m:=l.length) rfl rfl rfl rfl rfl rfl rfl rfl (nX l) b Wg om rfl ?_|refine aH rfl hp (aB _) ?_|refine aH rfl j (aB _) ?_|refine fI rfl rfl rfl rfl rfl rfl rfl Wh (zero_add _) ?_|refine j4 rfl rfl rfl rfl rfl rfl ?_|refine fD rfl rfl rfl Wh Wh rfl ?_|refine jE rfl rfl rfl rfl ?_|refine NO 0 k rfl rfl rfl rfl rfl rfl rfl rfl (zero_le _) (by rw[g];omega) (.inl rfl) ?_|refine NO (k+1) l[i].ag.length rfl rfl rfl rfl rfl rfl u (by rw[g]) om (by rw[g];exact le_refl _) (.inr (oJ _)) ?_|refine sZ (n:=0) rfl rfl rfl rfl rfl rfl rfl rfl rfl rfl q (by dsimp only;rw[c];omega) (by rw[c];omega) rfl ?_|refine bW (n:=0+(((l[i].ag.map Row.C).take k).drop 0).length) rfl rfl rfl rfl rfl rfl rfl rfl (by rw[List.nil_append,zero_add]) r (by dsimp only;rw[c,h];omega) (by rw[c,h];omega) rfl ?_|refine bC (agg:=true) rfl rfl rfl rfl rfl b x1 rfl rfl rfl rfl ?_|fail
   refine⟨_,_,rfl,(cA rfl Wb rfl).trans (AK.a7 (AC.no ?_))⟩;rw[e,d,drop_zero,take_of_length_le Wb,map_set];refine OF (AC.agg (AA.cons (aG _) (AA.cons (AC.no (AA.eq ?_)) (aB _)))) i;rw[List.nil_append,drop_zero,map_append,List.map_take,List.map_drop];congr 2;rw[take_of_length_le Wb]
def aCi(l:List AY)(c:BF){B:Nat}(hf:BN B l)(hB:B+c.args.length+1<=1048576):
  AN prog 94 [Tbls.C l,c.C] (.tup [Tbls.C (f8 l c).1,(f8 l c).2.1.C, .int .i64 (f8 l c).2.2]):=by
 refine AI.plain uN X8 (cE [.tmp 4, .cell 5 43, .tmp 6] func94 ?_);have u:BN 1048576 l:=hf.le om;have ag:=u.len;have hk:=aA7 c.name;have hg:=UB iD c.args om;have w:=UB sBy c.args om;have b:=Vx l ⟨c.table,(bT iD c.args).1.s⟩ om (λt ht=>by have:=hf.ag t ht;omega);have ac:=Hf hf ⟨c.table,(bT iD c.args).1.s⟩;have i:=aEI l c.table (bT iD c.args).1.s u.len u.ag;have m:=OA (bT iD c.args).1.s;obtain⟨K,hK⟩:∃K,K=(bT iD c.args).1:=⟨_,rfl⟩;obtain⟨Y,hY⟩:∃Y,Y=(bT sBy c.args).1:=⟨_,rfl⟩;obtain⟨G,hG⟩:∃G,G=cP l ⟨c.table,(bT iD c.args).1.s⟩:=⟨_,rfl⟩;have j:f8 l c=if !uL c.name then (l,bP,1)
  else if c.name==kY then (l,bP,11)
  else if K.kind != 4 then (l,bP,1)
  else if G.e != 0 then (l,bP,G.e)
  else if c.name==vA then (sN l c.table (uM c K.s G),iF K.s,0)
  else if !G.is then (l,bP,6)
  else if c.name==vB then (w8 l c.table K.s,iF K.s,0)
  else He l c G.row:=by rw[hK,hG];rfl
 have a4:∀r:Row,He l c r=if Y.kind != 2 then (l,bP,1)
  else if (iC r c.col).kind != 2 then (l,bP,7)
  else if !jB Y.n || !jB (iC r c.col).n || !jB (kG (Y.n+(iC r c.col).n)) then (l,bP,8)
  else (sN l c.table { r with aq:=oY r.aq c.col (zO (kG (Y.n+(iC r c.col).n))) },zO (kG (Y.n+(iC r c.col).n)),0):=by intro r;rw[hY];rfl
 rw[<-hG]at b ac;rw[<-hK]at hg i m b;rw[<-hY]at w;clear hG hK hY;obtain⟨o,a0⟩:∃o:Row,o=if G.is then G.row else ⟨K.s,c.aw,[],false⟩:=⟨_,rfl⟩
 have a7:uM c K.s G={ o with aq:=eO c.args o.aq }:=by unfold uM;rw[a0]
 have z:o.aq.length+c.args.length<=1048576-1:=by
  rw[a0];split
  ·omega
  ·simp only[List.length_nil];omega
 have g:=aCh l c.table { o with aq:=eO c.args o.aq } u.len u.ag;rw[a7]at j;have h:=aCf o c.col om;have a1:=M6 Y.n;have p:=M6 (iC o c.col).n;have q:=M6 (kG (Y.n+(iC o c.col).n));have wW:=aEH (kG (Y.n+(iC o c.col).n));have a:=aA9 o.aq (.mk c.col (zO (kG (Y.n+(iC o c.col).n)))) om;have d:=aCh l c.table { o with aq:=oY o.aq c.col (zO (kG (Y.n+(iC o c.col).n))) } u.len u.ag;cases a5:G.is
 ·have a2:o=⟨K.s,c.aw,[],false⟩:=by rw[a0,a5];rfl
  rw[a2]at g z j h p q wW a d;clear a2 a0 a7;have dg:(!G.is)=true:=Zh
  repeat' first|refine cW rfl rfl ?_|refine fV 4 2 rfl rfl (AK.a7 (x := .slice [] .nil) (y := .slice [] .no) (AC.no (aB _))) rfl ?_|refine .seq ?_|refine .rg ?_|refine .rd ?_|refine .block ?_|refine .scope ?_|refine .skip ?_|refine .label ?_|refine .exit ?_|refine .ret ?_|refine .ct ?_|refine .cf ?_|refine .cy ?_|refine .cn ?_|(refine .cond rfl ?_ ?_<;>intro O)|refine cT ?_|refine .nl ?_|refine .dd ?_|refine .ys ?_|refine .no ?_|(refine fH rfl ?_ ?_<;>intro O)|refine .lb ?_|refine .ln ?_|refine .ls ?_|refine .pv ?_|refine .ix ?_|refine .pt ?_|refine .pf ?_|refine .bx ?_|refine .al ?_|refine .st ?_|refine .ad ?_|refine .sb ?_|refine .mf ?_|refine .cl ?_|refine .cw ?_|refine .ck ?_|refine aH rfl hk (aB _) ?_|refine aH rfl hg (aB _) ?_|refine aH rfl w (aB _) ?_|refine aH rfl b (aB _) ?_|refine aH rfl i (aB _) ?_|refine aH rfl m (aB _) ?_|refine aH rfl h (aB _) ?_|refine aH rfl a1 (aB _) ?_|refine aH rfl p (aB _) ?_|refine Kl rfl rfl ?_|refine aH rfl q (aB _) ?_|refine aH rfl wW (aB _) ?_|refine aH rfl a (aB _) ?_|refine aH rfl d (aB _) ?_|fail
  all_goals try (refine aI rfl ?_;clear hk hg w b i m g h a1 p q wW a d;rw[j];(repeat' split)<;>first|exact qI|exact aG _|(rw[a4];(repeat' split)<;>first|exact qI|exact aG _|(exfalso;simp_all[vA,vB,kY];done))|(exfalso;simp_all[vA,vB,kY];done);done)
  change AB _ _ _ _ _ _ _;refine AB.loop (λn s H=>∃(k:Nat) (cols:List AF),n=c.args.length-k/\k<=c.args.length/\cols.length+(c.args.length-k)<=1048576-1/\eO c.args (⟨K.s,c.aw,[],false⟩:Row).aq=eO (c.args.drop k) cols/\
   H=⟨[.cells fF, .cells fF, .cells [.int .i64 K.kind, .int .i64 K.n, .str K.s, .slice K.lv .no, .slice K.mv .no], .cells [.str G.row.key, .str G.row.aw, .slice (G.row.aq.map AF.C) .no, .bool G.row.broken, .bool G.is, .int .i64 G.e], .cells [.str (⟨K.s,c.aw,[],false⟩:Row).key, .str (⟨K.s,c.aw,[],false⟩:Row).aw, .slice (cols.map AF.C) .no, .bool (⟨K.s,c.aw,[],false⟩:Row).broken]],[]⟩/\
   s=[(12, .int .i64 k),(0,Tbls.C l),(3, .ac c.C),(11, .ptr 4 0),(8, .ptr 2 0),(5, .ptr 0 0)])
   (s0:=[(12, .int .i64 (0:Nat)),(0,Tbls.C l),(3, .ac c.C),(11, .ptr 4 0),(8, .ptr 2 0),(5, .ptr 0 0)])
   Z9 ⟨0,(⟨K.s,c.aw,[],false⟩:Row).aq,rfl,zero_le _,(by rw[Nat.sub_zero];exact z),rfl,rfl,rfl⟩ ?_
  rintro n s H ⟨k,cols,rfl,hk', hcl,hp,rfl,rfl⟩;clear hk hg w b i h a1 p q wW a d a4;by_cases h1:k<c.args.length
  ·have d1:decide ((k:Int)<(c.args.length:Int))=true:=by simp[h1]
   have x1:=aV (f:=AF.C) h1;have a:=aA9 cols c.args[k] om;have ae:=qH cols c.args[k].name c.args[k].v
   repeat' first|refine .seq ?_|refine .rg ?_|refine .rd ?_|refine .block ?_|refine .scope ?_|refine .skip ?_|refine .label ?_|refine .exit ?_|refine .ret ?_|refine .ct ?_|refine .cf ?_|refine .cy ?_|refine .cn ?_|(refine .cond rfl ?_ ?_<;>intro O)|refine cT ?_|refine .nl ?_|refine .dd ?_|refine .ys ?_|refine .no ?_|(refine fH rfl ?_ ?_<;>intro O)|refine .lb ?_|refine .ln ?_|refine .ls ?_|refine .pv ?_|refine .ix ?_|refine .pt ?_|refine .pf ?_|refine .bx ?_|refine .al ?_|refine .st ?_|refine .ad ?_|refine .sb ?_|refine .mf ?_|refine .cl ?_|refine .cw ?_|refine .ck ?_|refine aH rfl a (aB _) ?_|fail
   ·refine⟨c.args.length-(k+1),om,[(12, .int .i64 ((k+1:Nat):Int)),(0,Tbls.C l),(3, .ac c.C),(11, .ptr 4 0),(8, .ptr 2 0),(5, .ptr 0 0)],
     Z9,Wy,Xb,k+1,oY cols c.args[k].name c.args[k].v,rfl,om,om, ?_,rfl,rfl⟩
    rw[hp,iR h1,if_pos (by rename_i O;simpa [iD]using O)]
   ·refine⟨c.args.length-(k+1),om,[(12, .int .i64 ((k+1:Nat):Int)),(0,Tbls.C l),(3, .ac c.C),(11, .ptr 4 0),(8, .ptr 2 0),(5, .ptr 0 0)],
     Z9,Wy,Xb,k+1,cols,rfl,om,om, ?_,rfl,rfl⟩
    rw[hp,iR h1,if_neg (by rename_i O;simpa [iD]using O)]
  ·have d1:decide ((k:Int)<(c.args.length:Int))=false:=by simp;omega
   rw[drop_eq_nil_of_le om,eO]at hp;rw[hp]at g j
   repeat' first|refine .seq ?_|refine .rg ?_|refine .rd ?_|refine .block ?_|refine .scope ?_|refine .skip ?_|refine .label ?_|refine .exit ?_|refine .ret ?_|refine .ct ?_|refine .cf ?_|refine .cy ?_|refine .cn ?_|(refine .cond rfl ?_ ?_<;>intro O)|refine cT ?_|refine .nl ?_|refine .dd ?_|refine .ys ?_|refine .no ?_|(refine fH rfl ?_ ?_<;>intro O)|refine .lb ?_|refine .ln ?_|refine .ls ?_|refine .pv ?_|refine .ix ?_|refine .pt ?_|refine .pf ?_|refine .bx ?_|refine .al ?_|refine .st ?_|refine .ad ?_|refine .sb ?_|refine .mf ?_|refine .cl ?_|refine .cw ?_|refine .ck ?_|refine aH rfl g (aB _) ?_|refine aH rfl m (aB _) ?_|fail
   refine aI rfl ?_;clear g m;rw[j]
   (repeat' split)<;>first|exact aG _|(exfalso;simp_all[vA,vB,kY];done)
 ·have a2:o=G.row:=by rw[a0,a5];rfl
  rw[a2]at g z j h p q wW a d;clear a2 a0 a7;have dg:(!G.is)=false:=Zh
  repeat' first|refine cW rfl rfl ?_|refine fV 4 2 rfl rfl (AK.a7 (x := .slice [] .nil) (y := .slice [] .no) (AC.no (aB _))) rfl ?_|refine .seq ?_|refine .rg ?_|refine .rd ?_|refine .block ?_|refine .scope ?_|refine .skip ?_|refine .label ?_|refine .exit ?_|refine .ret ?_|refine .ct ?_|refine .cf ?_|refine .cy ?_|refine .cn ?_|(refine .cond rfl ?_ ?_<;>intro O)|refine cT ?_|refine .nl ?_|refine .dd ?_|refine .ys ?_|refine .no ?_|(refine fH rfl ?_ ?_<;>intro O)|refine .lb ?_|refine .ln ?_|refine .ls ?_|refine .pv ?_|refine .ix ?_|refine .pt ?_|refine .pf ?_|refine .bx ?_|refine .al ?_|refine .st ?_|refine .ad ?_|refine .sb ?_|refine .mf ?_|refine .cl ?_|refine .cw ?_|refine .ck ?_|refine aH rfl hk (aB _) ?_|refine aH rfl hg (aB _) ?_|refine aH rfl w (aB _) ?_|refine aH rfl b (aB _) ?_|refine aH rfl i (aB _) ?_|refine aH rfl m (aB _) ?_|refine aH rfl h (aB _) ?_|refine aH rfl a1 (aB _) ?_|refine aH rfl p (aB _) ?_|refine Kl rfl rfl ?_|refine aH rfl q (aB _) ?_|refine aH rfl wW (aB _) ?_|refine aH rfl a (aB _) ?_|refine aH rfl d (aB _) ?_|fail
  all_goals try (refine aI rfl ?_;clear hk hg w b i m g h a1 p q wW a d;rw[j];(repeat' split)<;>first|exact qI|exact aG _|(rw[a4];(repeat' split)<;>first|exact qI|exact aG _|(exfalso;simp_all[vA,vB,kY];done))|(exfalso;simp_all[vA,vB,kY];done);done)
  change AB _ _ _ _ _ _ _;refine AB.loop (λn s H=>∃(k:Nat) (cols:List AF),n=c.args.length-k/\k<=c.args.length/\cols.length+(c.args.length-k)<=1048576-1/\eO c.args (G.row:Row).aq=eO (c.args.drop k) cols/\
   H=⟨[.cells fF, .cells fF, .cells [.int .i64 K.kind, .int .i64 K.n, .str K.s, .slice K.lv .no, .slice K.mv .no], .cells [.str G.row.key, .str G.row.aw, .slice (G.row.aq.map AF.C) .no, .bool G.row.broken, .bool G.is, .int .i64 G.e], .cells [.str (G.row:Row).key, .str (G.row:Row).aw, .slice (cols.map AF.C) .no, .bool (G.row:Row).broken]],[]⟩/\
   s=[(12, .int .i64 k),(0,Tbls.C l),(3, .ac c.C),(11, .ptr 4 0),(8, .ptr 2 0),(5, .ptr 0 0)])
   (s0:=[(12, .int .i64 (0:Nat)),(0,Tbls.C l),(3, .ac c.C),(11, .ptr 4 0),(8, .ptr 2 0),(5, .ptr 0 0)])
   Z9 ⟨0,(G.row:Row).aq,rfl,zero_le _,(by rw[Nat.sub_zero];exact z),rfl,rfl,rfl⟩ ?_
  rintro n s H ⟨k,cols,rfl,hk', hcl,hp,rfl,rfl⟩;clear hk hg w b i h a1 p q wW a d a4;by_cases h1:k<c.args.length
  ·have d1:decide ((k:Int)<(c.args.length:Int))=true:=by simp[h1]
   have x1:=aV (f:=AF.C) h1;have a:=aA9 cols c.args[k] om;have ae:=qH cols c.args[k].name c.args[k].v
   repeat' first|refine .seq ?_|refine .rg ?_|refine .rd ?_|refine .block ?_|refine .scope ?_|refine .skip ?_|refine .label ?_|refine .exit ?_|refine .ret ?_|refine .ct ?_|refine .cf ?_|refine .cy ?_|refine .cn ?_|(refine .cond rfl ?_ ?_<;>intro O)|refine cT ?_|refine .nl ?_|refine .dd ?_|refine .ys ?_|refine .no ?_|(refine fH rfl ?_ ?_<;>intro O)|refine .lb ?_|refine .ln ?_|refine .ls ?_|refine .pv ?_|refine .ix ?_|refine .pt ?_|refine .pf ?_|refine .bx ?_|refine .al ?_|refine .st ?_|refine .ad ?_|refine .sb ?_|refine .mf ?_|refine .cl ?_|refine .cw ?_|refine .ck ?_|refine aH rfl a (aB _) ?_|fail
   ·refine⟨c.args.length-(k+1),om,[(12, .int .i64 ((k+1:Nat):Int)),(0,Tbls.C l),(3, .ac c.C),(11, .ptr 4 0),(8, .ptr 2 0),(5, .ptr 0 0)],
     Z9,Wy,Xb,k+1,oY cols c.args[k].name c.args[k].v,rfl,om,om, ?_,rfl,rfl⟩
    rw[hp,iR h1,if_pos (by rename_i O;simpa [iD]using O)]
   ·refine⟨c.args.length-(k+1),om,[(12, .int .i64 ((k+1:Nat):Int)),(0,Tbls.C l),(3, .ac c.C),(11, .ptr 4 0),(8, .ptr 2 0),(5, .ptr 0 0)],
     Z9,Wy,Xb,k+1,cols,rfl,om,om, ?_,rfl,rfl⟩
    rw[hp,iR h1,if_neg (by rename_i O;simpa [iD]using O)]
  ·have d1:decide ((k:Int)<(c.args.length:Int))=false:=by simp;omega
   rw[drop_eq_nil_of_le om,eO]at hp;rw[hp]at g j
   repeat' first|refine .seq ?_|refine .rg ?_|refine .rd ?_|refine .block ?_|refine .scope ?_|refine .skip ?_|refine .label ?_|refine .exit ?_|refine .ret ?_|refine .ct ?_|refine .cf ?_|refine .cy ?_|refine .cn ?_|(refine .cond rfl ?_ ?_<;>intro O)|refine cT ?_|refine .nl ?_|refine .dd ?_|refine .ys ?_|refine .no ?_|(refine fH rfl ?_ ?_<;>intro O)|refine .lb ?_|refine .ln ?_|refine .ls ?_|refine .pv ?_|refine .ix ?_|refine .pt ?_|refine .pf ?_|refine .bx ?_|refine .al ?_|refine .st ?_|refine .ad ?_|refine .sb ?_|refine .mf ?_|refine .cl ?_|refine .cw ?_|refine .ck ?_|refine aH rfl g (aB _) ?_|refine aH rfl m (aB _) ?_|fail
   refine aI rfl ?_;clear g m;rw[j]
   (repeat' split)<;>first|exact aG _|(exfalso;simp_all[vA,vB,kY];done)
def OG(s:AJ)(d:AR)(A:List AF)(hx:Am s d A)(pl:BP)(hup:BM pl)(B:Nat)(hB:B<=1152921504606846976)(hp:CO s pl B)(N0:Nat)(O:CX s d A N0 pl)(u:AG)(row:Row)(hrow:BQ row)(W:Nat->List AY->Prop)(hW:BI s A u W)(w:List Sl)(st:BG)(hS:Ai w st.n)(hk:W (st.n+1) st.L)(hn:st.n<=400)(hM:401<=N0+1+st.n):
  AI prog 41 [.ptr 0 0, .str u,row.C, .slice (w.map Sl.C) .no] ⟨cnB s d A st,[]⟩ (λe Y=>e = .ret (.tup [])/\Y=⟨cnB s d A (p6 s A pl u row (bF s d A u w) st (bF s d A u w).length),[]⟩):=by
 obtain⟨am,bl⟩:=hx.aj;have a3:=hx.hs;have bj:=hx.hd;have bq:=hS.sz;have aw:1048576 * (st.n+1)<=1048576 * 401:=Nat.mul_le_mul_left _ om;have bd:=UA s d A u w a3 om am hx.he;have ad:=Ge s d A hx pl hup B hp u row hrow W hW w st hS hk hn;have bo:=Jv s d A hx pl hup B hp u row hrow W hW w st hS hk hn;have an:=p5 s d A hx u hS;have bh:=hrow.len;refine gI (nB:=1) (mT:=0) (aS [] func41 ?_) (le_refl _) (le_refl _) rfl (gP _ _ _ _ _ _) rfl;have e1:decide ((400:Int)<(st.n:Int))=false:=decide_eq_false om;generalize bF s d A u w=i at *;unfold cnB P3;repeat' first|refine .br ?_|refine b7 rfl ?_|refine .s1 ?_|(refine .q ?_ ?_<;>intro O)|fail
 refine fX i AT.C (λj=>[(9, .int .i64 j),(8, .slice (i.map AT.C) .no),(6, .ac row.C),(1, .str u),(0, .ptr 0 0)]) (λj=>⟨cnB s d A (p6 s A pl u row i st j),[]⟩) (λ_=>True) trivial (λj h1 d1 x1 _=> ?_) (λd1 _=> ?_);case refine_2=>refine .go ?_;exact⟨_,_,rfl,eM _ _,rfl,rfl⟩
 obtain⟨i1,i2,i3⟩:=ad j om;have l:=Ib s A pl u row i st h1;obtain⟨ap,ab⟩:=an i[j] (getElem_mem h1);generalize bi:p6 s A pl u row i st j=f at *;generalize a0:p6 s A pl u row i st (j+1)=R at *;generalize i[j]=g at *;obtain⟨x,C,aa⟩:=List.exists_cons_of_ne_nil ap;have a2:g.O.headD sl0=x:=by rw[aa];rfl
 have x0:(g.O.map Sl.C)[0]? =some x.C:=by rw[aa];rfl
 have y:=ab.all x (by rw[aa];simp);have bp:=x.ay;obtain⟨f1,f2⟩:=jT hx.so u x.name;have bn:(aK s u x.name).1.size=(aK s u x.name).1.name.length+aC AP.size (aK s u x.name).1.params+(aK s u x.name).1.t.size+aC AO.size (aK s u x.name).1.ar+4:=rfl;have bm:(aK s u x.name).1.t.name.length<=(aK s u x.name).1.t.size:=X7
 obtain⟨bg,ac⟩:=Cq hx u x y.1 y.2;have a9:=hW.calm x.name;have hT:=hW.bz _ _ i1;have a7:=hW.fits f.n f.L g i1 (by unfold hdS;rw[a2];exact y.1) (by unfold hdS;rw[a2];exact y.2);have a6:=hW.b7 f.n f.L g i1 (by unfold hdS;rw[a2];exact y.1) (by unfold hdS;rw[a2];exact y.2);have af:=V0 s u (aK s u x.name).1;have hF:=C2 s u x.name a3;have hO:=aC4 s u (aK s u x.name).1 a3 om;have hA:=Uw s a3 (λe he p hp=>(hx.so e he).2 p hp) A (by have:=hx.he;omega) (aK s u x.name).1.params x.args om f2 (λp hp=>by have h5:=aN (size:=AP.size) hp;have h6:=p.lens;have h7:=Gc s u x.name;omega) om ((x.b4.1 y.1).2.1);have b4:=So g.O (by have:=ab.sz;omega);have ak:=tP ab;have a4:∀(tb:AG) (v:AH) (L:List AY),Ad v->BT L->f.n+1<=400->_:=λtb v L hv hL hq=>aCg s d A a3 pl B om hp hup N0 O tb (bO g.O) v.size v (le_refl _) hv.1 (aK s u x.name).1.t ⟨L,f.n+1⟩ om a9 hL (ak.mono Wg) Wg Wg
 unfold kZ PD Gd KJ hdS at *;dsimp only at l;rw[a2]at l a7 a6;generalize dU s (aK s u x.name).1.params x.args A=a at *;generalize aK s u x.name=fr at *;generalize ofB s u fr.1=bb at *;obtain⟨b,bk⟩:=bb;obtain⟨al,ae⟩:=a;dsimp only at *;have ba:=aCf row b.col om;have bc:=UB b.arg al om;have b0:=gP s d A f 1 0;have bf:∀q:List (Nat×AV),q=q:=λ_=>rfl
 unfold cnB P3;repeat' first|refine .br ?_|refine b7 rfl ?_|refine Df (x := .region 7 _ _) 10 b0 rfl ?_|refine bJ (d:=10) rfl rfl rfl rfl rfl ?_|refine .s1 ?_|(refine .q ?_ ?_<;>intro O)|refine bC (agg:=true) rfl rfl rfl rfl rfl rfl rfl rfl rfl rfl rfl ?_|fail
 refine⟨_,_,_,[(10, .ac fr.1.C),(9, .int .i64 j),(8, .slice (i.map AT.C) .no),(6, .ac row.C),(1, .str u),(0, .ptr 0 0)],rfl,bE rfl rfl rfl rfl,Z9,by show aM 1 0 _=true;simp[aM,AV.ab,aF,aD,Ag.K,Row.K,cH], ?_⟩;repeat' first|refine .br ?_|refine b7 rfl ?_|refine Df (x := .region 8 _ _) 12 b0 rfl ?_|refine bJ (d:=12) rfl rfl rfl rfl rfl ?_|refine .s1 ?_|(refine .q ?_ ?_<;>intro O)|refine bC (agg:=true) rfl rfl rfl rfl rfl rfl rfl rfl rfl rfl rfl ?_|fail
 refine⟨_,_,_,[(12, .ac b.C),(10, .ac fr.1.C),(9, .int .i64 j),(8, .slice (i.map AT.C) .no),(6, .ac row.C),(1, .str u),(0, .ptr 0 0)],rfl,bE rfl rfl rfl rfl,Z9,by show aM 1 0 _=true;simp[aM,AV.ab,aF,aD,Ag.K,BO.K,Row.K,cH], ?_⟩;have b1:=gP s d A R 1 0;by_cases ca:ae=0;case neg=>
  have n1:(ae != 0)=true:=by simpa using ca
  rw[if_pos (.inl ca)]at l;repeat' first|refine .br ?_|refine b7 rfl ?_|refine .s1 ?_|(refine .q ?_ ?_<;>intro O)|fail
  exact nz trivial (hb:=by show aM 1 0 _=true;simp[aM,AV.ab,aF,Row.K,aD,cH]) (h3:=by show (aQ 1 0 (cnB s d A ⟨f.L,f.n+1⟩)&&true)=true;rw[gP];rfl) (h4:=by show (⟨cnB s d A ⟨f.L,f.n+1⟩,[]⟩:St)=(⟨cnB s d A (p6 s A pl u row i st (j+1)),[]⟩:St);rw[a0,l])
 have n1:(ae != 0)=false:=by rw[ca];rfl
 by_cases cb:400<f.n+1
 ·have n2:decide ((f.n:Int)+1>400)=true:=decide_eq_true om;rw[if_pos (.inr cb)]at l;repeat' first|refine .br ?_|refine b7 rfl ?_|refine .s1 ?_|(refine .q ?_ ?_<;>intro O)|fail
  exact nz trivial (hb:=by show aM 1 0 _=true;simp[aM,AV.ab,aF,Row.K,aD,cH]) (h3:=by show (aQ 1 0 (cnB s d A ⟨f.L,f.n+1⟩)&&true)=true;rw[gP];rfl) (h4:=by show (⟨cnB s d A ⟨f.L,f.n+1⟩,[]⟩:St)=(⟨cnB s d A (p6 s A pl u row i st (j+1)),[]⟩:St);rw[a0,l])
 have n2:decide ((f.n:Int)+1>400)=false:=decide_eq_false om;rw[if_neg (λh=>h.elim (λh=>h ca) cb)]at l;have z:∀v:AH,aE 1 0 [.ptr 0 0,fr.1.t.C,v.C, .str b.table, .slice ((bO g.O).map Sl.C) .no]=true:=λv=>Za
 rcases af with h0|h0|h0|h0
 ·have e0:(b.how==0)=true:=by rw[h0];rfl
  rw[if_neg om,if_neg om]at l;have hv:=a4 b.table (iC row b.col) f.L (pY hrow.bl) hT om;rw[<-l]at hv;have k:=gP s d A ⟨f.L,f.n+1⟩ 1 0;have o:=z (iC row b.col);repeat' first|refine .br ?_|refine b7 rfl ?_|refine .s1 ?_|(refine .q ?_ ?_<;>intro O)|refine dE (B:=[_]) rfl hv rfl rfl (le_refl _) k rfl b1 rfl o rfl (aB _) ?_|fail
  exact nz trivial (hb:=by show aM 1 0 _=true;simp[aM,AV.ab,aF,Row.K,aD,cH]) (h3:=by show (aQ 1 0 (cnB s d A R)&&true)=true;rw[b1];rfl) (h4:=by show (⟨cnB s d A R,[]⟩:St)=(⟨cnB s d A (p6 s A pl u row i st (j+1)),[]⟩:St);rw[a0])
 ·have e0:(b.how==0)=false:=by rw[h0];rfl
  have e1:(b.how==1)=true:=XO
  rw[if_neg om,if_neg om]at l;have hv:=a4 b.table (iC row b.col) f.L (pY hrow.bl) hT om;rw[<-l]at hv;have k:=gP s d A ⟨f.L,f.n+1⟩ 1 0;have o:=z (iC row b.col);repeat' first|refine .br ?_|refine b7 rfl ?_|refine .s1 ?_|(refine .q ?_ ?_<;>intro O)|refine dE (B:=[_]) rfl hv rfl rfl (le_refl _) k rfl b1 rfl o rfl (aB _) ?_|fail
  exact nz trivial (hb:=by show aM 1 0 _=true;simp[aM,AV.ab,aF,Row.K,aD,cH]) (h3:=by show (aQ 1 0 (cnB s d A R)&&true)=true;rw[b1];rfl) (h4:=by show (⟨cnB s d A R,[]⟩:St)=(⟨cnB s d A (p6 s A pl u row i st (j+1)),[]⟩:St);rw[a0])
 ·have e0:(b.how==0)=false:=by rw[h0];rfl
  have e1:(b.how==1)=false:=XO
  have e2:(b.how==2)=true:=XO
  rw[if_neg om,if_pos h0]at l;have hv:=a4 b.table (bT b.arg al).1 f.L (pY λm hm=>(ac m hm).2) hT om;rw[<-l]at hv;have k:=gP s d A ⟨f.L,f.n+1⟩ 1 0;have o:=z (bT b.arg al).1;repeat' first|refine .br ?_|refine b7 rfl ?_|refine .s1 ?_|(refine .q ?_ ?_<;>intro O)|refine dE (B:=[_]) rfl hv rfl rfl (le_refl _) k rfl b1 rfl o rfl (aB _) ?_|fail
  exact nz trivial (hb:=by show aM 1 0 _=true;simp[aM,AV.ab,aF,Row.K,aD,cH]) (h3:=by show (aQ 1 0 (cnB s d A R)&&true)=true;rw[b1];rfl) (h4:=by show (⟨cnB s d A R,[]⟩:St)=(⟨cnB s d A (p6 s A pl u row i st (j+1)),[]⟩:St);rw[a0])
 ·have e0:(b.how==0)=false:=by rw[h0];rfl
  have e1:(b.how==1)=false:=XO
  have e2:(b.how==2)=false:=XO
  have e3:(b.how==3)=true:=XO
  rw[if_pos h0]at l;obtain⟨B2,w1,w2⟩:=a7 h0 om;have hD:=aCi f.L (o9 fr.1 b al) w1 w2;have b5:=aAa fr.1 b al;have aj:=hW.bz _ _ (a6 h0 om);have aq:=(Fa (L:=f.L) (c:=o9 fr.1 b al) (B:=1048576) ⟨hT.a8,hT.bl⟩ (λm hm=>(ac m hm).2)).1;generalize o9 fr.1 b al=cm at *;generalize f8 f.L cm=r at *;have hv:=a4 b.table r.2.1 r.1 aq aj om;rw[<-l]at hv;have k:=gP s d A ⟨r.1,f.n+1⟩ 1 0;have o:=z r.2.1;repeat' first|refine .br ?_|refine b7 rfl ?_|refine .s1 ?_|(refine .q ?_ ?_<;>intro O)|refine dE (B:=[_]) rfl hv rfl rfl (le_refl _) k rfl b1 rfl o rfl (aB _) ?_|fail
  exact nz trivial (hb:=by show aM 1 0 _=true;simp[aM,AV.ab,aF,Row.K,aD,cH]) (h3:=by show (aQ 1 0 (cnB s d A R)&&true)=true;rw[b1];rfl) (h4:=by show (⟨cnB s d A R,[]⟩:St)=(⟨cnB s d A (p6 s A pl u row i st (j+1)),[]⟩:St);rw[a0])
theorem Sr(s:AJ)(d:AR)(A:List AF)(N:Nat)(u:AG)(row:Row)(w:List Sl)(st:BG)(hn:st.n<=400):p6 s A (oZ s d A N) u row (bF s d A u w) st (bF s d A u w).length=oZ s d A (N+1) u row w st:=by unfold p6;rw[oZ,take_length];dsimp only;rw[if_neg om]
def OH(s:AJ)(hs:A2 s)(d:AR)(A:List AF)(hx:Am s d A):∀N:Nat,N<=1000->CX s d A N (oZ s d A N)
 |0,_=>λu row w st _ _ _ _ hn a=>by omega
 |N+1,b=>λu row w st ht hT hr hS hn a=>by
  have h:=OG s d A hx _ (qY s d A N) _ (by have:=Nat.mul_le_mul_right 70368744177664 (show N<=1000 by omega);omega) (Jw s hs d A hx N) N (OH s hs d A hx N om) u row hr _ (zE hs A ht) w st hS hT hn om
  rw[Sr s d A N u row w st hn]at h
  exact h
def zR(s:AJ)(d:AR)(o:Ak)(A:List AF)(L:List AY):Nat:=(oZ s d A 401 (aW s o) cJ o.O ⟨L,0⟩).n
def aAb(s:AJ)(hs:A2 s)(d:AR)(A:List AF)(hx:Am s d A)(o:Ak)(L:List AY)(W:Nat->List AY->Prop)(hW:BI s A (aW s o) W)(hk:W 1 L)(hS:Ai o.O 0):
  AN prog 15 [s.C,d.C,o.C, .slice (A.map AF.C) .no,Tbls.C L, .int .i64 400] (.int .i64 (zR s d o A L)):=by
 have hp:=OG s d A hx _ (qY s d A 400) _ Wd (Jw s hs d A hx 400) 400 (OH s hs d A hx 400 om) (aW s o) cJ ⟨Wd,λm f=>by cases f⟩ W hW o.O ⟨L,0⟩ hS hk (zero_le _) (by show 401<=400+1+0;omega);rw[Sr s d A 400 (aW s o) cJ o.O ⟨L,0⟩ (zero_le _)]at hp;have hr:=Vq s o;unfold zR;have a:oZ s d A 401=oZ s d A (400+1):=rfl;rw[a];generalize oZ s d A (400+1) (aW s o) cJ o.O ⟨L,0⟩=R at *
 have c:=gP s d A ⟨L,0⟩ 1 0;have e:=gP s d A R 1 0;have b:aE 1 0 [.ptr 0 0, .str (aW s o),cJ.C, .slice (o.O.map Sl.C) .no]=true:=by simp[aE,AV.ab,aF,Row.K,aD,aZ]
 have hw:AA [.ptr 0 0, .str (aW s o), .agg [.str [], .str [], .slice [] .nil, .bool false], .slice (o.O.map Sl.C) .no] [.ptr 0 0, .str (aW s o),cJ.C, .slice (o.O.map Sl.C) .no]:=
  AA.cons (aG _) (AA.cons (aG _) (AA.cons (AC.agg (AA.cons (aG _) (AA.cons (aG _) (AA.cons (AC.no (aB _)) (aB _))))) (aB _)))
 refine AI.plain rfl Xd (aS [12] func15 ?_)
 repeat' first|refine AD.bx (v := .agg [_,_,_,_,_,_,_,_,_,_,_]) ?_|refine .br ?_|refine .s1 ?_|(refine .q ?_ ?_<;>intro O)|refine b7 rfl ?_|refine dE (B0:=cnB s d A ⟨L,0⟩) (B:=[]) rfl hp rfl rfl (le_refl _) c rfl e rfl b rfl hw ?_|fail
 exact bY
end Go.Proofs.YtimbiifcnhgcoaaGreatDoor
