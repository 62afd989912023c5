/- Joined texts. -/
import Derived.Test.YtimbiifcnhgcoaaGreatDoorGEvK10
set_option maxRecDepth 100000
set_option maxHeartbeats 16000000
set_option linter.all false
open List (getElem?_append_left getElem?_append_right getElem_mem length_append length_cons length_map length_nil map_append map_cons map_nil mem_singleton take_length take_succ_cons take_zero)
open Nat (le_refl le_trans zero_le)
open Go Go.Av Go.Proofs.YtimbiifcnhgcoaaGreatDoor Go.Proofs.Tryz
variable{α:Type}{name:AG}{v:AV}{p:Array TypeId}{l:List AF}{J pre:List AV}{k B' m:Nat}
namespace Go.Proofs.YtimbiifcnhgcoaaGreatDoor
open Go Go.Av Go.Proofs.Tryz
def pY{name:AG}:∀ {l:List AF},(∀x∈l,Ad x.v)->Ad (bT name l).1
 |[],_=>tk0
 |m::l,h=>by
  rw[bT]
  split
  ·exact h m Wb
  ·exact pY λx hx=>h x Yq
def N2{n:Int}(h:jB n=true):Ad (zO n):=by unfold jB at h;simp only[Bool.and_eq_true,decide_eq_true_eq]at h;refine⟨DS (by unfold zO;simp[AH.size,iL,mR]), ?_⟩;unfold zO;simp only[AH.ok,lW,lX,and_true];refine⟨rfl, ?_⟩;unfold Lit.wf IntKind.min IntKind.max;rw[Bool.and_eq_true,decide_eq_true_eq,decide_eq_true_eq];exact⟨(by show (-9223372036854775808:Int)<=n;omega),(by show n<=(9223372036854775807:Int);omega)⟩
def Bv(r:Row):Prop:=∀m∈r.aq,Ad m.v
def KE{n:AG}{v:AH}(h:∀m∈l,Ad m.v)(b:Ad v):∀m∈oY l n v,Ad m.v:=λm a=>by
 unfold oY at a
 split at a
 ·rcases List.mem_append.1 a with h1|h1
  ·exact h m h1
  ·rw[mem_singleton.1 h1];exact b
 ·rcases DJ a with h1|⟨y,hy,rfl⟩
  ·exact h m h1
  ·exact b
def wC:∀ {args b:List AF},(∀m∈args,Ad m.v)->(∀m∈b,Ad m.v)->∀m∈eO args b,Ad m.v
 |[],b,_,h=>h
 |a::args,b,ha,h=>by
  rw[eO]
  refine wC (λm c=>ha m (by simp[c])) ?_
  split
  ·exact KE h (ha a Wb)
  ·exact h
structure BV(B:Nat)(l:List AY):Prop where
 a8:BN B l
 bl:∀t∈l,∀r∈t.ag,Bv r
theorem BV.mono{B:Nat}{l:List AY}(h:BV B l)(hb:B<=B'):BV B' l:=⟨h.a8.le hb,h.bl⟩
def Mt{B:Nat}{l:List AY}{r:Row}(h:BV B l){a:Nat}(hr:r.aq.length<=B+a)(b:Bv r):BV (B+a+1) (sN l name r):=by
 refine⟨⟨by have:=Re l name r;have:=h.a8.len;omega,λt ht=> ?_,λt ht=> ?_⟩,λt ht=> ?_⟩
 ·rcases F6 ht with h1|h1|⟨y,hy,h1⟩
  ·have:=h.a8.ag t h1;omega
  ·rw[h1];simp
  ·rw[h1];have:=KB y.ag r;have:=h.a8.ag y hy;omega
 ·rcases F6 ht with h1|h1|⟨y,hy,h1⟩
  ·exact λx hx=>by have:=h.a8.aq t h1 x hx;omega
  ·rw[h1];intro x hx;rw[mem_singleton.1 hx];omega
  ·rw[h1];exact EA (Q:=λx=>x.aq.length<=B+a+1) (λx hx=>by have:=h.a8.aq y hy x hx;omega) om
 ·rcases F6 ht with h1|h1|⟨y,hy,h1⟩
  ·exact h.bl t h1
  ·rw[h1];intro x hx;rw[mem_singleton.1 hx];exact b
  ·rw[h1];exact EA (h.bl y hy) b
def VX{B:Nat}{l:List AY}{a:AG}(h:BV B l):BV B (w8 l name a):=by
 refine⟨⟨by have:=Rf l name a;have:=h.a8.len;omega,λt ht=> ?_,λt ht=> ?_⟩,λt ht=> ?_⟩
 ·rcases F7 ht with h1|⟨y,hy,h1⟩
  ·exact h.a8.ag t h1
  ·rw[h1];have:=KC y.ag a;have:=h.a8.ag y hy;omega
 ·rcases F7 ht with h1|⟨y,hy,h1⟩
  ·exact h.a8.aq t h1
  ·rw[h1];exact ED (Q:=λx=>x.aq.length<=B) (h.a8.aq y hy)
 ·rcases F7 ht with h1|⟨y,hy,h1⟩
  ·exact h.bl t h1
  ·rw[h1];exact ED (h.bl y hy)
def Fa{L:List AY}{c:BF}{B:Nat}(h:BV B L)(ha:∀m∈c.args,Ad m.v):Ad (f8 L c).2.1/\BV (B+c.args.length+1) (f8 L c).1:=by
 have hrow:∀n,Bv (cP L n).row:=λn=>KD h.bl (λm i=>by cases i) n
 have d:∀n,(cP L n).row.aq.length<=B:=λn=>KD (Q:=λr=>r.aq.length<=B) h.a8.aq (zero_le _) n
 have hk:=pY (name:=iD) ha;have f:=tkT (lP.1 hk.1).1;have b:BV (B+c.args.length+1) L:=h.mono om;unfold f8;split
 ·exact⟨tk0,b⟩
 split
 ·exact⟨tk0,b⟩
 split
 ·exact⟨tk0,b⟩
 split
 ·exact⟨tk0,b⟩
 split
 ·refine⟨f, ?_⟩;unfold uM;by_cases j:(cP L ⟨c.table,(bT iD c.args).1.s⟩).is=true
  ·rw[if_pos j];have g:=qX c.args (cP L ⟨c.table,(bT iD c.args).1.s⟩).row.aq;have h3:=d ⟨c.table,(bT iD c.args).1.s⟩;exact Mt h (a:=c.args.length) Wg (wC ha (hrow _))
  ·rw[if_neg j];have g:=qX c.args [];simp only[length_nil]at g;exact Mt h (a:=c.args.length) Wg (wC ha (λm i=>by cases i))
 split
 ·exact⟨tk0,b⟩
 split
 ·exact⟨f,(VX h).mono om⟩
 unfold He;dsimp only;split
 ·exact⟨tk0,b⟩
 split
 ·exact⟨tk0,b⟩
 split
 ·exact⟨tk0,b⟩
 rename_i k p o;have hw:jB (kG ((bT sBy c.args).1.n+(iC (cP L ⟨c.table,(bT iD c.args).1.s⟩).row c.col).n))=true:=by
  cases e:jB (kG ((bT sBy c.args).1.n+(iC (cP L ⟨c.table,(bT iD c.args).1.s⟩).row c.col).n)) with
  |true=>rfl
  |false=>exact absurd (by rw[e];simp) o
 refine⟨N2 hw, ?_⟩;have g:=qH (cP L ⟨c.table,(bT iD c.args).1.s⟩).row.aq c.col (zO (kG ((bT sBy c.args).1.n+(iC (cP L ⟨c.table,(bT iD c.args).1.s⟩).row c.col).n)));have h3:=d ⟨c.table,(bT iD c.args).1.s⟩;have hb:1<=c.args.length:=by
  cases e:c.args with
  |nil=>rw[e]at k;exact absurd (by rfl) k
  |cons a l=>simp
 exact Mt h (a:=c.args.length) Wg (KE (hrow _) (N2 hw))
end Go.Proofs.YtimbiifcnhgcoaaGreatDoor
namespace Go.Av
open Go
variable [AL]
def EE(n m:Nat):(List.range n++[n+m]).Nodup:=WZ
theorem Ia{n m k:Nat}(h:k<n):(List.range n++[n+m])[k]? =some k:=WZ
theorem F8(n m:Nat):(List.range n++[n+m])[n]? =some (n+m):=WZ
theorem rZ(n m:Nat):(List.range n++[n+m]).length=n+1:=Wb
def Mu(a m m2 c:List α)(x y:α)(O:c.length=a.length):eZ (a++m++x::m2) (List.range a.length++[a.length+m.length]) (c++[y])=c++m++y::m2:=by
 have hn:=EE a.length m.length;have d:∀i∈List.range a.length++[a.length+m.length],i<(a++m++x::m2).length:=λi X=>WZ
 have b:(List.range a.length++[a.length+m.length]).length<=(c++[y]).length:=by rw[rZ];simp[O]
 unfold eZ;rw[List.drop_eq_nil_of_le (by rw[rZ];simp[O]),List.append_nil];apply List.ext_getElem?;intro j;by_cases l:j<a.length
 ·rw[Cn _ _ _ j j hn d b (Ia l),List.append_assoc,getElem?_append_left om,getElem?_append_left om]
 by_cases n:j=a.length+m.length
 ·subst n;rw[Cn _ _ _ a.length _ hn d b (F8 _ _),getElem?_append_right om,getElem?_append_right Wl];simp[O]
 ·rw[Cm _ _ _ _ (λh=>by simp only[List.mem_append,List.mem_range,mem_singleton]at h;omega)];by_cases h3:j<a.length+m.length
  ·have e:j<(a++m).length:=by rw[length_append];exact h3
   have f:j<(c++m).length:=by rw[length_append,O];exact h3
   rw[getElem?_append_left e,getElem?_append_left f,getElem?_append_right om,getElem?_append_right om,O]
  ·have e:(a++m).length<=j:=by rw[length_append];omega
   have f:(c++m).length<=j:=by rw[length_append,O];omega
   have g:j-(a++m).length=(j-(a++m).length-1)+1:=YA
   have k:(c++m).length=(a++m).length:=by rw[length_append,length_append,O]
   rw[getElem?_append_right e,getElem?_append_right f,k,g,List.getElem?_cons_succ,List.getElem?_cons_succ]
def Rh{N n k:Nat}(h:k<n):emb N (List.range n++[n+m]) k=k:=by grind[emb]
theorem PC(N n m:Nat):emb N (List.range n++[n+m]) n=n+m:=by simp[emb]
section
variable {P:Program} {A:Array Oper} {G:Bool} {K:AX->AE->St->Prop} {C:List Oper} {I:List Aj} {s:AE} {H:St} {R:TypeId} {D:String} {S:Array Edge}
def tO{d:Option Tmp}{f:FuncId}{args:Array Operand}{o:List AV}{B0 B1 B:List Ob}{T0 T1 M M2:List Tok}{x0 x1:Tok}{z n j r:Nat}(ha:jZ s args.toList some=some J)
  (hp:AI P f (pre ++ .ao T0.length z n j r::o) ⟨B0,T0++[x0]⟩ (λe a7=>e = .ret v/\a7=⟨B1,T1++[x1]⟩)) (hσ:H=⟨B0++B,T0++M++x0::M2⟩) (hB:B1.length=B0.length) (hT:T1.length=T0.length)
  (a0:aQ B0.length T0.length B0=true) (a5:aL B0.length T0.length (T0++[x0])=true) (x:aQ B0.length (T0.length+1) B0=true) (y:aL B0.length (T0.length+1) (T0++[x0])=true)
  (a1:aQ B0.length T0.length B1=true) (a6:aL B0.length T0.length (T1++[x1])=true)
  (a3:aE B0.length T0.length pre=true) (a4:aE B0.length T0.length o=true) (hl:aE B0.length (T0.length+1) (pre ++ .ao T0.length z n j r::o)=true)
  (hv:v.ab B0.length T0.length=true) (hw:AA J (pre ++ .ao (T0.length+M.length) z n j r::o))
  (k:AD P A G K C (.all::I) (iG d v s) ⟨B1++B,T1++M++x1::M2⟩):AD P A G K (⟨d, .call ⟨.value (.func f),args,p⟩,R,D,S,none⟩::C) I s H:=by
 subst hσ;have g:∀i,i<B0.length->emb (B0.length+B.length) (List.range B0.length) i=i:=λi X=>sQ (.inr X)
 have m:∀i,i<T0.length->emb (T0.length+M.length+1+M2.length) (List.range T0.length++[T0.length+M.length]) i=i:=λi X=>Rh X
 have e0:=n8 g m B0 a0;have e1:=mF g m (T0++[x0]) a5;have w:∀(Q N:Nat->Nat) (a b:List AV),aX Q N (a++b)=aX Q N a++aX Q N b:=λQ N a b=>by
  induction a with
  |nil=>rfl
  |cons c a E=>rw[List.cons_append,aX,aX,E,List.cons_append]
 have u:aX (emb (B0.length+B.length) (List.range B0.length)) (emb (T0.length+M.length+1+M2.length) (List.range T0.length++[T0.length+M.length])) (pre ++ .ao T0.length z n j r::o)=pre ++ .ao (T0.length+M.length) z n j r::o:=by rw[w,aX,dX g m pre a3,dX g m o a4,AV.af,PC]
 refine lS (nB:=B0.length+B.length) (nT:=T0.length+M.length+1+M2.length) (List.range B0.length) (List.range T0.length++[T0.length+M.length]) ha hp Wb Wl ⟨List.nodup_range,λi X=>WW⟩
  ⟨EE _ _,λi X=>by simp only[List.mem_append,List.mem_range,mem_singleton]at X;omega⟩
  Wb Wb (λj i ob h ho=> ?_) (λj i t h ht=> ?_) (by rw[List.length_range,rZ];exact x) (by rw[List.length_range,rZ];exact y) (by rw[List.length_range,rZ];exact hl)
  (by rw[u];exact hw) (iK g m v hv) (B':= B1++B) (T':= T1++M++x1::M2) ?_ ?_ k
 ·grind
 ·have q:=congrArg (λl:List Tok=>l[j]?) e1;simp only[List.getElem?_map,ht]at q;show (T0++M++x0::M2)[i]? =_;by_cases hj:j<T0.length
  ·rw[Ia hj]at h;cases h;rw[List.append_assoc,getElem?_append_left hj];rw[getElem?_append_left hj]at ht;rw[ht];exact q.symm
  ·have a2:=(List.getElem?_eq_some_iff.1 ht).1;simp only[length_append,length_cons,length_nil]at a2;obtain rfl:j=T0.length:=om
   rw[F8]at h;cases h;rw[getElem?_append_right Wb];rw[getElem?_append_right (le_refl _)]at ht;simp only[Nat.sub_self,length_append]at ht ⊢;show some x0=_;rw[show some x0=some t from ht];exact q.symm
 ·rw[n8 g m B1 a1];exact oO B0 B B1 (.inr hB) om
 ·rw[mF g m _ a6];exact Mu T0 M M2 T1 x0 x1 hT
def F9{d:Option Tmp}{f:FuncId}{args:Array Operand}{b:List AV}{T1:List Tok}(ha:jZ s args.toList some=some J)
  (hp:∀B,AI P f b ⟨B,H.T⟩ (λe Y=>e = .ret v/\Y=⟨B,T1⟩)) (hw:AA J b)
  (k:AD P A G K C (.tk::I) (iG d v s) ⟨H.B,T1⟩):AD P A G K (⟨d, .call ⟨.value (.func f),args,p⟩,R,D,S,none⟩::C) I s H:=
 bU (t := .tk) (Y:=⟨H.B,T1⟩) rfl ⟨rfl,λB=>by
  intro g w a next Q l m hn
  have h:args.toList.map (ev s)=J:=Option.some.inj (gV _ _ _ ha)
  have i:=jC (g:=g) (w:=w) (s:=s) (a:=a) args.toList (λx hx=>m x Wq)
  rw[h]at i
  have c:AM g w b (args.map a.eval).toList:=by
   rw[Array.toList_map]
   exact hw _ _ _ i
  unfold Oper.wp
  rw[j9 (hp B).1 a w]
  refine((hp B).2 _ w _ l c).mono ?_
  rintro e w' ⟨j,Y,x,h1,h2,h3,rfl,rfl⟩
  obtain⟨u,rfl,n⟩:=h3
  exact hn u w' j h1 h2 n⟩ k
def EF{T:TypeId}{a:Array TypeId}{b:Array TypeId}{c:Bool}(h:P.underlying T=some (.func a b c)){u:Value}{r:Bool}(d:(u = .nilFunc/\r=true)\/(∃f x y,u = .func f x y)/\r=false)(n:Nat)(w:World):(Op.equalIn (n+1) T u .nilFunc).run P w = .ok r w:=by rcases d with⟨rfl,rfl⟩|⟨⟨f,x,y,rfl⟩,rfl⟩<;>simp[Op.equalIn,run_underlying h,Result.andThen]
def Mv[Lay P]{d:Tmp}{T U:TypeId}{x:Operand}{b:Bool}{o:TI}(hT:ty? P T=some o)(hk:o.kind = .func)(hx:ev? s x=some v)(h:(match v with | .nilfn=>some true | .fn _ _ _=>some false|_=>none)=some b)(k:AD P A G K C (.pure::I) ((d, .bool b)::s) H):
  AD P A G K (⟨some d, .binOp .eql T x (.const .nilFunc) U,R,D,S,none⟩::C) I s H:=
 bU rfl (eY λg w a q=>by
  have l:=op1 hx We q;obtain⟨m,i,z0,t1,t2,n,z,_⟩:=(eH hT).ex;have p:∃a b c,i = .func a b c:=by rw[hk]at n;cases i<;>first|exact⟨_,_,_,rfl⟩|cases n
  obtain⟨t,u,y,rfl⟩:=p;have j:a.eval (.const .nilFunc) = .nilFunc:=rfl;refine⟨.bool b, ?_,rfl⟩;cases v with
  |nilfn=>cases h;have e:a.eval x = .nilFunc:=l;have h3:(Op.equal T .nilFunc .nilFunc).run P w = .ok true w:=EF t2 (.inl ⟨rfl,rfl⟩) 9999 w;simp[execOp,e,j,eqGuard,Go.binOp,h3,Result.andThen]
  |fn f r cs=>cases h;obtain⟨vs,ws,e,_⟩:=l;have h3:(Op.equal T (.func f vs ws) .nilFunc).run P w = .ok false w:=EF t2 (.inr ⟨⟨_,_,_,rfl⟩,rfl⟩) 9999 w;simp[execOp,e,j,eqGuard,Go.binOp,h3,Result.andThen]
  |_=>cases h) k
end
end Go.Av
namespace Go.Proofs.YtimbiifcnhgcoaaGreatDoor
open Go Go.Av Go.Proofs.Tryz
attribute [local irreducible] AB AD AN AI Av.AU AZ
theorem At.read{st:AS}(h:At st)(n:Ae)(O:(eD st.R).length<st.c):At (st.read n):=⟨h.F,by
 intro e
 have a:(lK n st.R).length=0:=congrArg List.length e
 rw[lH]at a
 exact h.R0 (List.eq_nil_of_length_eq_zero a),by
 show (eD (lK n st.R)).length<=st.c
 rw[uO n st.R h.R0]
 split
 ·exact h.RL
 ·rw[length_append];simp only[length_cons,length_nil];omega,by
 show (lK n st.R).length<=_
 rw[lH];exact h.RN,h.T⟩
def eRd(s:AJ)(d:AR)(A:List AF)(hx:Am s d A)(pl:Pl)(hpl:Bs s d A pl)(tb a:AG)(t:Ac)(w:List Sl)(p:Ab)(st:AS)(h:At st)(hr:(eD st.R).length<st.c)(hs:Ai w st.c)(hp:p.length<=st.c)(f:st.c<=4096)
  (O:(xB s pl w t p (cP st.L ⟨tb,a⟩) (st.read ⟨tb,a⟩)).2.c<=4096):
  Bo s d A 20 [jM (.ao 3 10 1 0 0) tb a t w p, .ac (.ptr 0 0), .ac (.ptr 1 0)] st (knG 0 (isT t)) (xB s pl w t p (cP st.L ⟨tb,a⟩) (st.read ⟨tb,a⟩)):=by
 have e:=aCP s d A st ⟨tb,a⟩ h om [.aa [knG 0 (isT t)]] rfl;have b:=aDk s d A hx pl hpl tb a t w p (cP st.L ⟨tb,a⟩) (F4 h.T _) (st.read ⟨tb,a⟩) (h.read _ hr) hs hp f O;unfold Bo at b ⊢;generalize xB s pl w t p (cP st.L ⟨tb,a⟩) (st.read ⟨tb,a⟩)=r at *
 refine gI (nB:=2) (mT:=4) (aS [] func20 ?_) (le_refl _) (le_refl _) rfl (cN _ _ _ _ _ om) (j6 _ _ (aF _ _ _ (eA _)))
 repeat' first|refine .br ?_|refine .s1 ?_|(refine .q ?_ ?_<;>intro O)|refine dR rfl e (aB _) ?_|refine dR rfl b (aB _) ?_|fail
 exact⟨_,_,rfl,eM _ _,rfl,rfl⟩
def EH(s:AJ)(pl:Pl)(tb:AG)(w:List Sl)(t:Ac)(p:Ab):∀(l:List AH) (i k:Nat) (h:k<l.length) (st:AS),
  cC s pl tb w (l.take (k+1)) t p i st=((cC s pl tb w (l.take k) t p i st).1++[(dD s pl tb w l[k] t (p++[⟨[],((i+k:Nat):Int)⟩]) (cC s pl tb w (l.take k) t p i st).2).1],(dD s pl tb w l[k] t (p++[⟨[],((i+k:Nat):Int)⟩]) (cC s pl tb w (l.take k) t p i st).2).2)
 |[],i,k,h,st=>by simp at h
 |v::l,i,0,h,st=>by rw[take_succ_cons,take_zero,take_zero];simp only[cC,List.nil_append,List.getElem_cons_zero,Nat.add_zero]
 |v::l,i,k+1,h,st=>by have E:=EH s pl tb w t p l (i+1) k Wu (dD s pl tb w v t (p++[⟨[],i⟩]) st).2;rw[take_succ_cons,take_succ_cons,cC,cC];grind
theorem Ga(s:AJ)(pl:Pl)(tb:AG)(w:List Sl)(t:Ac)(p:Ab):∀(l:List AH) (i:Nat) (st:AS),(cC s pl tb w l t p i st).1.length=l.length
 |[],_,_=>by rw[cC];rfl
 |v::l,i,st=>by rw[cC,length_cons,Ga s pl tb w t p l];rfl
def Jr(s:AJ)(pl:Pl)(hpl:Aw pl)(tb:AG)(w:List Sl)(v:AH)(t:Ac)(p:Ab)(st:AS)(h:At st):st.c+1<=(dD s pl tb w v t p st).2.c:=by
 obtain⟨k,n,str,l,m⟩:=v;rw[dD];dsimp only;split
 ·split
  ·exact le_refl _
  ·exact le_refl _
 split
 ·split
  ·exact le_refl _
  ·exact(sP s pl hpl tb w l (cB t) p 0 st.ah h.ah.ok).c
 split
 ·split
  ·exact le_refl _
  ·exact le_refl _
 split
 ·exact le_refl _
 unfold xB;split
 ·exact le_refl _
 split
 ·split
  ·exact le_refl _
  ·exact le_refl _
 split
 ·exact le_refl _
 ·exact(hpl _ _ _ _ _ _ (h.b9 _).ok).c
def KF(s:AJ)(pl:Pl)(hpl:Aw pl)(tb:AG)(w:List Sl)(t:Ac)(p:Ab):∀(l:List AH) (i:Nat) (st:AS),At st->st.c+l.length<=(cC s pl tb w l t p i st).2.c
 |[],_,st,h=>by rw[cC];exact le_refl _
 |v::l,i,st,h=>by rw[cC];have a:=Jr s pl hpl tb w v t (p++[⟨[],i⟩]) st h;have b:=KF s pl hpl tb w t p l (i+1) _ (nY s pl hpl tb w v t (p++[⟨[],i⟩]) st h).ok;grind
def EI(s:AJ)(pl:Pl)(hpl:Aw pl)(tb:AG)(w:List Sl)(t:Ac)(p:Ab):∀(l:List AH) (i k:Nat) (st:AS),At st->(cC s pl tb w (l.take k) t p i st).2.c<=(cC s pl tb w l t p i st).2.c
 |[],i,k,st,h=>by rw[List.take_nil];exact le_refl _
 |v::l,i,0,st,h=>by rw[take_zero];have:=(sP s pl hpl tb w (v::l) t p i st h).c;simpa only [cC]using this
 |v::l,i,k+1,st,h=>by exact EI s pl hpl tb w t p l (i+1) k _ (nY s pl hpl tb w v t (p++[⟨[],i⟩]) st h).ok
def pZ(n m:Nat)(h:2<m)(st:AS)(x:AV)(hx:x.K=true):aL n m (evT st++[.aa [x]])=true:=by rw[gZ,mS _ _ h];simp[aL,Tok.ab,aE,aF n m x hx]
theorem Ai.mono{l:List Sl}{c c': Nat}(h:Ai l c)(O:c<=c'):Ai l c':= ⟨le_trans h.sz (Nat.mul_le_mul_left _ om),h.all⟩
theorem EJ(tb a:AG)(t:Ac)(w:List Sl)(p:Ab):(jM .nilp tb a t w p).K=true:=by simp[jM,AV.K,aA,aZ,dM]
def mJ(t:Ac)(y:AH)(tb a:AG)(t0:Ac)(w:List Sl)(p:Ab):aA [t.C,y.C,jM .nilp tb a t0 w p]=true:=by simp[aA,EJ,AH.K];rfl
def CJ(s:AJ)(v:AH)(t:Ac):Prop:=g8 s t.name=true\/Ad v
def Bd(s:AJ)(d:AR)(A:List AF)(pl:Pl)(tb:AG)(w:List Sl)(v:AH):Prop:=∀(t:Ac) (p:Ab) (st:AS) (m0:Bool),t.name.length<=1048640->At st->Ai w st.c->p.length<=st.c->st.c<=4096->CJ s v t->(dD s pl tb w v t p st).2.c<=4096->
 Bo s d A 63 [.ptr 0 0, .ao 3 10 1 0 0,t.C,v.C,jM .nilp tb [] ⟨[],0,0⟩ w p] st (knG 0 m0) (dD s pl tb w v t p st)
theorem Js(l:List Nd)(x:Nd):(l.map λy=>AV.ac y.ak)++[AV.ac x.ak]=(l++[x]).map λy=>AV.ac y.ak:=WZ
def aCU(s:AJ)(d:AR)(A:List AF)(hx:Am s d A)(pl:Pl)(hpl:Aw pl)(tb:AG)(w:List Sl)(v:AH)(E:∀k (h:k<v.l.length),Bd s d A pl tb w v.l[k])(t:Ac)(p:Ab)(st:AS)(m:Bool)(ht:t.name.length<=1048640)(h:At st)(hs:Ai w st.c)(hp:p.length<st.c)(aa:st.c<=4096)
  (hv:∀k (h:k<v.l.length),CJ s v.l[k] t) (a3:v.kind=6) (O:(cC s pl tb w v.l t p 0 st).2.c<=4096):
  Bo s d A 115 [.ptr 0 0, .ao 3 10 1 0 0,t.C,v.C,jM .nilp tb [] ⟨[],0,0⟩ w p] st (knG 0 m) (.mk 1 m bP [] (cC s pl tb w v.l t p 0 st).1,(cC s pl tb w v.l t p 0 st).2):=by
 have ac:=KF s pl hpl tb w t p v.l 0 st h;have hk:(v.kind != 6)=false:=by rw[a3];rfl
 refine gI (nB:=2) (mT:=4) (aS [] func115 ?_) (le_refl _) (le_refl _) rfl (cN _ _ _ _ _ om) (j6 _ _ (aF _ _ _ (eA _)))
 repeat' first|refine .br ?_|refine .s1 ?_|(refine .q ?_ ?_<;>intro O)|refine fT rfl ?_|refine bC (agg:=true) rfl rfl rfl rfl rfl rfl rfl rfl rfl rfl rfl ?_|fail
 refine b8 28 rfl (cV (k:=3) (i:=0) (c:=9) rfl rfl rfl (k9 (z:=1) rfl rfl rfl) rfl rfl) ?_;refine bK v.l.length (λk=>[(28, .int .i64 k),(27, .int .i64 v.l.length),(26, .slice v.lv .no),(9, .ac (jM .nilp tb [] ⟨[],0,0⟩ w p)),(7, .ac t.C),(1, .ao 3 10 1 0 0),(0, .ptr 0 0)])
  (λk=>⟨evB s d A (cC s pl tb w (v.l.take k) t p 0 st).2,evT (cC s pl tb w (v.l.take k) t p 0 st).2++[.aa [.agg [.int .i64 1, .bool m, .int .i64 0, .int .i64 0, .str [], .slice [] .nil, .slice [] .nil, .slice [] .nil, .slice [] .nil, .slice ((cC s pl tb w (v.l.take k) t p 0 st).1.map λy => .ac y.ak) (.own 4 1)]], .len k]⟩)
  (λk=>True) ⟨rfl,congrArg (AV.int .i64) Zi,rfl,rfl,rfl,rfl,rfl,trivial⟩ rfl trivial λk ab _=> ?_
 by_cases x:k<v.l.length
 ·have d1:decide ((k:Int)<(v.l.length:Int))=true:=by simp[x]
  have x1:=lD x;have a:=sP s pl hpl tb w (v.l.take k) t p 0 st h;have a5:=Ga s pl tb w t p (v.l.take k) 0 st;have u:=EH s pl tb w t p v.l 0 k x st;have g:=EI s pl hpl tb w t p v.l 0 (k+1) st h;rw[u]at g;rw[Nat.zero_add]at u g;have a6:(v.l.take k).length=k:=Wl
  generalize cC s pl tb w (v.l.take k) t p 0 st=q at *
  have a0:=nY s pl hpl tb w v.l[k] t (p++[⟨[],(k:Int)⟩]) q.2 a.ok;have f:=E k x t (p++[⟨[],(k:Int)⟩]) q.2 false ht a.ok (hs.mono a.c) (by rw[length_append];have:=a.c;simp only[length_cons,length_nil];omega) (by have:=a0.c;dsimp only at g;omega) (hv k x) (le_trans g O);have ae:q.2.c<=4096:=by have:=a0.c;dsimp only at g;omega
  have ad:=aBF p ⟨[],(k:Int)⟩ om;unfold Bo at f;generalize dD s pl tb w v.l[k] t (p++[⟨[],(k:Int)⟩]) q.2=r at *
  have a7:(q.1.map λy=>AV.ac y.ak).length=k:=by rw[length_map,a5,a6]
  have a2:∀B,AI prog 107 [.ao 3 10 1 0 0] ⟨B,evT q.2++[.aa [.agg [.int .i64 1, .bool m, .int .i64 0, .int .i64 0, .str [], .slice [] .nil, .slice [] .nil, .slice [] .nil, .slice [] .nil, .slice (q.1.map λy => .ac y.ak) (.own 4 1)]], .len k]⟩ (λe Y=>e = .ret (.ao 5 10 1 0 0)/\Y=⟨B,evT q.2++[.aa [.agg [.int .i64 1, .bool m, .int .i64 0, .int .i64 0, .str [], .slice [] .nil, .slice [] .nil, .slice [] .nil, .slice [] .nil, .slice ((q.1.map λy => .ac y.ak)++[.ao 5 10 1 0 0]) (.own 4 1)]], .len (k+1), .aa [kn0 false]]⟩):=
   λB=>VH (j:=3) (b:=4) (n:=k) rfl rfl a7 Wd om
  have q1:=cN s d A q.2 3 om;have q2:=pZ 2 3 om q.2 (knG 0 false) rfl;have q3:=cN s d A q.2 4 om;have q4:=pZ 2 4 om q.2 (knG 0 false) rfl;have q5:=cN s d A r.2 3 om;have q6:=pZ 2 3 om r.2 _ (eA r.1);have q7:aE 2 3 [t.C,v.l[k].C,jM .nilp tb [] ⟨[],0,0⟩ w (p++[⟨[],(k:Int)⟩])]=true:=aD _ _ _ (mJ _ _ _ _ _ _ _);have q8:aE 2 4 (AV.ptr 0 0::AV.ao 3 10 1 0 0::[t.C,v.l[k].C,jM .nilp tb [] ⟨[],0,0⟩ w (p++[⟨[],(k:Int)⟩])])=true:=by have:=aD 2 4 _ (mJ t v.l[k] tb [] ⟨[],0,0⟩ w (p++[⟨[],(k:Int)⟩]));rw[aE,aE,this];rfl
  generalize v.l[k]=y at *
  repeat' first|refine b8 10 rfl (cV (k:=3) (i:=0) (c:=9) rfl rfl rfl (nA (bE (k:=5) (n:=1) (j:=0) rfl rfl rfl rfl)) rfl rfl) ?_|refine .s1 ?_|(refine .q ?_ ?_<;>intro O)|refine F9 rfl a2 (aB _) ?_|refine tO (B0:=evB s d A q.2) (B1:=evB s d A r.2) (T0:=evT q.2) (T1:=evT r.2) (x0 := .aa [knG 0 false]) (x1 := .aa [r.1.ak]) (M:=[_,_]) (M2:=[]) (pre:=[.ptr 0 0]) (o:=[_,_,_]) rfl f rfl rfl rfl q1 q2 q3 q4 q5 q6 rfl q7 q8 rfl (aB _) ?_|fail
  refine⟨x,Z9, ?_, ?_, ?_,trivial⟩
  ·show aM 2 5 _=true;have a8:aE 2 5 v.lv=true:=aD _ _ _ v.bp;have a1:AV.ab 2 5 (jM .nilp tb [] ⟨[],0,0⟩ w p)=true:=aF _ _ _ (EJ _ _ _ _ _);simp only[aM,AV.ab,a8,a1];rfl
  ·show (aQ 2 5 (evB s d A r.2)&&aL 2 5 (evT r.2++[.aa [.agg [.int .i64 1, .bool m, .int .i64 0, .int .i64 0, .str [], .slice [] .nil, .slice [] .nil, .slice [] .nil, .slice [] .nil, .slice ((q.1.map λy => .ac y.ak)++[.ac r.1.ak]) (.own 4 1)]], .len (k+1)]))=true;have a4:aE 2 5 ((q.1.map λy => .ac y.ak)++[.ac r.1.ak])=true:=aD _ _ _ (by rw[Js];exact gS _);rw[cN _ _ _ _ _ om,gZ,mS _ _ om];simp only[aL,Tok.ab,aE,AV.ab,a4];rfl
  ·show (⟨evB s d A r.2,evT r.2++[.aa [.agg [.int .i64 1, .bool m, .int .i64 0, .int .i64 0, .str [], .slice [] .nil, .slice [] .nil, .slice [] .nil, .slice [] .nil, .slice ((q.1.map λy => .ac y.ak)++[.ac r.1.ak]) (.own 4 1)]], .len (k+1)]⟩:St)=⟨evB s d A (cC s pl tb w (v.l.take (k+1)) t p 0 st).2,evT (cC s pl tb w (v.l.take (k+1)) t p 0 st).2++[.aa [.agg [.int .i64 1, .bool m, .int .i64 0, .int .i64 0, .str [], .slice [] .nil, .slice [] .nil, .slice [] .nil, .slice [] .nil, .slice ((cC s pl tb w (v.l.take (k+1)) t p 0 st).1.map λy => .ac y.ak) (.own 4 1)]], .len (k+1)]⟩;rw[u,Js]
 ·have d1:decide ((k:Int)<(v.l.length:Int))=false:=by simp;omega
  obtain rfl:k=v.l.length:=om
  rw[take_length];generalize cC s pl tb w v.l t p 0 st=q at *
  refine .go ?_;refine⟨_,_,rfl,eJ (k:=3) (y:=(Nd.mk 1 m bP [] q.1).ak) rfl ?_ rfl,rfl,rfl⟩;exact AC.agg (AA.cons (aG _) (AA.cons (aG _) (AA.cons (aG _) (AA.cons (aG _) (AA.cons (aG _) (AA.cons (AC.no (AA.eq (sA _ _ _ _).symm)) (AA.cons (AC.no (AA.eq (wO _ _ _ _).symm)) (AA.cons (AC.no (aB _)) (AA.cons (aG _)
   (AA.cons (AC.no (AA.eq Y9)) (aB _)))))))))))
theorem DK(s:AJ)(pl:Pl)(tb:AG)(w:List Sl)(v:AH)(t:Ac)(p:Ab)(a:AS):dD s pl tb w v t p a=
  (if v.kind=0 then (if isT t=true then (mP true,a.ah.bad p 9) else (lL false bP,a.ah))
  else if (fU t).2=true then
   (if v.kind≠6 then (mP (isT t),a.ah.bad p 7)
   else (.mk 1 (isT t) bP [] (cC s pl tb w v.l (cB t) p 0 a.ah).1,(cC s pl tb w v.l (cB t) p 0 a.ah).2))
  else if g8 s t.name=false then
   (if (zX s t.name v).2≠0 then (mP (isT t),a.ah.bad p (zX s t.name v).2) else (lL (isT t) (zX s t.name v).1,a.ah))
  else if v.kind≠4 then (mP (isT t),a.ah.bad p 7)
  else xB s pl w t p (cP a.ah.L ⟨tb,v.s⟩) (a.ah.read ⟨tb,v.s⟩)):=by obtain⟨k,n,str,l,m⟩:=v;rfl
def TM(s:AJ)(d:AR)(A:List AF)(tb:AG)(w:List Sl)(v:AH)(t:Ac)(p:Ab)(st:AS)(m:Bool)(hF:st.F.length<=68719476736)(b:v.kind≠6):
  Bo s d A 115 [.ptr 0 0, .ao 3 10 1 0 0,t.C,v.C,jM .nilp tb [] ⟨[],0,0⟩ w p] st (knG 0 m) (mP m,st.bad p 7):=by
 have hk:(v.kind != 6)=true:=Yj
 refine gI (nB:=2) (mT:=4) (aS [] func115 ?_) (le_refl _) (le_refl _) rfl (cN _ _ _ _ _ om) (j6 _ _ (aF _ _ _ (eA _)));have a:∀(x:List Ob) (e:Int),_:=λ(x:List Ob) (e:Int)=>J5 s d A rdV lyV (.cells (kR st.L st.R.length)::x) (evT st++[.aa [knG 0 m]]) st.F 3 p e rfl rfl Wd hF
 repeat' first|refine .br ?_|refine .s1 ?_|(refine .q ?_ ?_<;>intro O)|refine dR rfl (a _ _) (aB _) ?_|fail
 exact⟨_,_,rfl,eJ (k:=3) rfl (iN 3 m _ _ _ _) rfl,rfl,tN st p 7 (.aa [(mP m).ak])⟩
def Mw(s:AJ)(d:AR)(A:List AF)(hx:Am s d A)(pl:Pl)(hplk:Aw pl)(hpl:Bs s d A pl)(tb:AG)(w:List Sl)(v:AH)(E:∀k (h:k<v.l.length),Bd s d A pl tb w v.l[k]):Bd s d A pl tb w v:=by
 intro t p st m0 ht h hs hp an hv O;have a3:=Jr s pl hplk tb w v t p st h;have hF:=h.F;have hI:=wIs t om;have j:=SM t om;have ap:=hx.hs;have hC:=zV s t.name om;have e0:evB s d A st=evB s d A st.ah:=rfl;have e1:evT st=evT st.ah:=rfl;unfold Bo;rw[e0,e1];refine gI (nB:=2) (mT:=4) (aS [] func63 ?_) (le_refl _) (le_refl _) rfl (cN _ _ _ _ _ om) (j6 _ _ (aF _ _ _ (eA _)));rw[DK]at O a3 ⊢;have h':= h.ah.ok;have hr:(eD st.ah.R).length<st.ah.c:=Nat.lt_succ_of_le h.RL;have a2:Ai w st.ah.c:=hs.mono (Nat.le_succ _);have a0:p.length<st.ah.c:=Nat.lt_succ_of_le hp;have b:st.ah.F.length<=68719476736:=by show st.F.length<=_;omega
 have g:st.ah.c<=4096:=le_trans a3 O;generalize st.ah=st at *;have y:∀(x:List Ob) (e:Int),_:=λ(x:List Ob) (e:Int)=>J5 s d A rdV lyV (.cells (kR st.L st.R.length)::x) (evT st++[.aa [knG 0 (isT t)]]) st.F 3 p e rfl rfl Wd b
 by_cases c0:v.kind=0
 ·have n0:(v.kind==0)=true:=by rw[c0];rfl
  rw[if_pos c0]at O ⊢;unfold evB;by_cases c1:isT t=true
  ·rw[if_pos c1]at O ⊢;rw[c1]at hI;have n:∀(x:List Ob),_:=λ(x:List Ob)=>VI s d A rdV lyV (.cells (kR st.L st.R.length)::x) (evT st++[.aa [knG 0 true]]) st.F 3 p rfl rfl Wd b
   repeat' first|refine AD.bx (v := .agg [_,_,_,_,_,_,_,_]) ?_|refine .br ?_|refine .s1 ?_|(refine .q ?_ ?_<;>intro O)|refine b7 rfl ?_|refine fT rfl ?_|refine bC (agg:=true) rfl rfl rfl rfl rfl rfl rfl rfl rfl rfl rfl ?_|refine dR rfl (n _) (aB _) ?_|fail
   exact⟨_,_,rfl,eJ (k:=3) rfl (iN 3 true _ _ _ _) rfl,rfl,tN st p 9 (.aa [(mP true).ak])⟩
  ·rw[if_neg c1]at O ⊢;have ac:isT t=false:=by simpa using c1
   rw[ac]at hI;have n:∀(x:List Ob),_:=λ(x:List Ob)=>Nw s d A rdV lyV (.cells (kR st.L st.R.length)::x) (evT st++[.aa [knG 0 false]]) st.F 3 p rfl
   repeat' first|refine AD.bx (v := .agg [_,_,_,_,_,_,_,_]) ?_|refine .br ?_|refine .s1 ?_|(refine .q ?_ ?_<;>intro O)|refine b7 rfl ?_|refine fT rfl ?_|refine bC (agg:=true) rfl rfl rfl rfl rfl rfl rfl rfl rfl rfl rfl ?_|refine dR rfl (n _) (aB _) ?_|fail
   exact⟨_,_,rfl,eJ (k:=3) rfl (iN 0 false _ _ _ _) rfl,rfl,rfl⟩
 have n0:(v.kind==0)=false:=by simpa using c0
 rw[if_neg c0]at O ⊢;by_cases i:(fU t).2=true
 ·rw[if_pos i]at O ⊢;rw[i]at j;have f:aE 2 4 (AV.ptr 0 0::AV.ao 3 10 1 0 0::[(cB t).C,v.C,jM .nilp tb [] ⟨[],0,0⟩ w p])=true:=by have:=aD 2 4 _ (mJ (cB t) v tb [] ⟨[],0,0⟩ w p);rw[aE,aE,this];rfl
  have q1:aQ (evB s d A st).length (evT st++[Tok.aa [knG 0 (isT t)]]).length (evB s d A st)=true:=cN s d A st 4 om;have q2:aL (evB s d A st).length (evT st++[Tok.aa [knG 0 (isT t)]]).length (evT st++[Tok.aa [knG 0 (isT t)]])=true:=j6 st (knG 0 (isT t)) rfl;have af:(fU t).1=cB t:=by
   unfold fU at i ⊢;split
   ·rfl
   ·rename_i hn;rw[if_neg hn]at i;cases i
  rw[af]at j;have q0:∀r:Nd×AS,(evT st++[Tok.aa [knG 0 (isT t)]]).length<=(evT r.2++[Tok.aa [r.1.ak]]).length:=λr=>le_refl _
  have q3:∀r:Nd×AS,aQ (evB s d A r.2).length (evT r.2++[Tok.aa [r.1.ak]]).length (evB s d A r.2)=true:=λr=>cN s d A r.2 4 om
  have q4:∀r:Nd×AS,aL (evB s d A r.2).length (evT r.2++[Tok.aa [r.1.ak]]).length (evT r.2++[Tok.aa [r.1.ak]])=true:=λr=>j6 r.2 _ (aF _ _ _ (eA _))
  by_cases c6:v.kind=6
  ·rw[if_neg (by simp[c6])]at O ⊢;have ag:∀k (hk:k<v.l.length),CJ s v.l[k] (cB t):=λk hk=>hv.imp id λhz=>hz.l (getElem_mem hk)
   have z:=aCU s d A hx pl hplk tb w v E (cB t) p st (isT t) ht h' a2 a0 g ag c6 O;unfold Bo at z;generalize (Nd.mk 1 (isT t) bP [] (cC s pl tb w v.l (cB t) p 0 st).1,(cC s pl tb w v.l (cB t) p 0 st).2)=r at *;repeat' first|refine AD.bx (v := .agg [_,_,_,_,_,_,_,_]) ?_|refine .br ?_|refine .s1 ?_|(refine .q ?_ ?_<;>intro O)|refine fT rfl ?_|refine bC (agg:=true) rfl rfl rfl rfl rfl rfl rfl rfl rfl rfl rfl ?_|refine dE (B0:=evB s d A st) (B1:=evB s d A r.2) rfl z rfl rfl (q0 r) q1 q2 (q3 r) (q4 r) f rfl (aB _) ?_|fail
   exact⟨_,_,rfl,eM _ _,rfl,rfl⟩
  ·rw[if_pos c6]at O ⊢;have z:=TM s d A tb w v (cB t) p st (isT t) b c6;unfold Bo at z;generalize (mP (isT t),st.bad p 7)=r at *;repeat' first|refine AD.bx (v := .agg [_,_,_,_,_,_,_,_]) ?_|refine .br ?_|refine .s1 ?_|(refine .q ?_ ?_<;>intro O)|refine fT rfl ?_|refine bC (agg:=true) rfl rfl rfl rfl rfl rfl rfl rfl rfl rfl rfl ?_|refine dE (B0:=evB s d A st) (B1:=evB s d A r.2) rfl z rfl rfl (q0 r) q1 q2 (q3 r) (q4 r) f rfl (aB _) ?_|fail
   exact⟨_,_,rfl,eM _ _,rfl,rfl⟩
 rw[if_neg i]at O ⊢;have ad:(fU t).2=false:=XN
 rw[ad]at j;have ao:(fU t).1=R8\/True := .inr trivial;by_cases u:g8 s t.name=false
 ·rw[if_pos u]at O ⊢;rw[u]at hC;obtain⟨z1,z2⟩:=hv.resolve_left (by rw[u];decide);obtain⟨z3,z4⟩:=Ox z2;have hO:=aDE s t.name v om z1 z3 z4;by_cases a:(zX s t.name v).2=0
  ·rw[if_neg Ww]at O ⊢;have n4:((zX s t.name v).2 != 0)=false:=by rw[a];rfl
   unfold evB;generalize zX s t.name v=o at *;repeat' first|refine AD.bx (v := .agg [_,_,_,_,_,_,_,_]) ?_|refine .br ?_|refine bJ (d:=12) rfl rfl rfl rfl rfl ?_|refine .s1 ?_|(refine .q ?_ ?_<;>intro O)|refine b7 rfl ?_|refine fT rfl ?_|refine fD rfl rfl rfl rfl rfl rfl ?_|refine bC (agg:=true) rfl rfl rfl rfl rfl rfl rfl rfl rfl rfl rfl ?_|fail
   exact⟨_,_,rfl,eJ (k:=3) rfl (Jo 0 (isT t) o.1 _ _) rfl,rfl,rfl⟩
  ·rw[if_pos a]at O ⊢;have n4:((zX s t.name v).2 != 0)=true:=by simpa using a
   unfold evB;generalize zX s t.name v=o at *;have m:∀(x:List Ob) (e:Int),_:=λ(x:List Ob) (e:Int)=>J5 s d A rdV lyV (.cells (kR st.L st.R.length)::x) (evT st++[.aa [knG 0 (isT t)], .aa [o.1.C]]) st.F 3 p e rfl rfl Wd b
   repeat' first|refine AD.bx (v := .agg [_,_,_,_,_,_,_,_]) ?_|refine .br ?_|refine bJ (d:=12) rfl rfl rfl rfl rfl ?_|refine .s1 ?_|(refine .q ?_ ?_<;>intro O)|refine b7 rfl ?_|refine fT rfl ?_|refine fD rfl rfl rfl rfl rfl rfl ?_|refine bC (agg:=true) rfl rfl rfl rfl rfl rfl rfl rfl rfl rfl rfl ?_|refine dR rfl (m _ _) (aB _) ?_|fail
   exact⟨_,_,rfl,eJ (k:=3) rfl (iN 3 (isT t) _ _ _ _) rfl,rfl,tN st p o.2 (.aa [(mP (isT t)).ak])⟩
 have ae:g8 s t.name=true:=by simpa using u
 rw[if_neg u]at O ⊢;rw[ae]at hC;by_cases a:v.kind=4;case neg=>
  rw[if_pos a]at O ⊢;have n4:(v.kind != 4)=true:=by simpa using a
  unfold evB;repeat' first|refine AD.bx (v := .agg [_,_,_,_,_,_,_,_]) ?_|refine .br ?_|refine .s1 ?_|(refine .q ?_ ?_<;>intro O)|refine b7 rfl ?_|refine fT rfl ?_|refine bC (agg:=true) rfl rfl rfl rfl rfl rfl rfl rfl rfl rfl rfl ?_|refine dR rfl (y _ _) (aB _) ?_|fail
  exact⟨_,_,rfl,eJ (k:=3) rfl (iN 3 (isT t) _ _ _ _) rfl,rfl,tN st p 7 (.aa [(mP (isT t)).ak])⟩
 have n4:(v.kind != 4)=false:=WQ
 rw[if_neg Ww]at O ⊢;have a1:=eRd s d A hx pl hpl tb v.s t w p st h' hr a2 (Nat.le_of_lt a0) g O;unfold Bo at a1;generalize xB s pl w t p (cP st.L ⟨tb,v.s⟩) (st.read ⟨tb,v.s⟩)=r at *;have q0:(evT st++[Tok.aa [knG 0 (isT t)]]).length<=(evT r.2++[Tok.aa [r.1.ak]]).length:=le_refl _;have q1:aQ (evB s d A st).length (evT st++[Tok.aa [knG 0 (isT t)]]).length (evB s d A st)=true:=cN s d A st 4 om;have q2:aL (evB s d A st).length (evT st++[Tok.aa [knG 0 (isT t)]]).length (evT st++[Tok.aa [knG 0 (isT t)]])=true:=j6 st (knG 0 (isT t)) rfl;have q3:aQ (evB s d A r.2).length (evT r.2++[Tok.aa [r.1.ak]]).length (evB s d A r.2)=true:=cN s d A r.2 4 om;have q4:aL (evB s d A r.2).length (evT r.2++[Tok.aa [r.1.ak]]).length (evT r.2++[Tok.aa [r.1.ak]])=true:=j6 r.2 _ (aF _ _ _ (eA _));have f:aE 2 4 [jM (.ao 3 10 1 0 0) tb v.s t w p, .ac (.ptr 0 0), .ac (.ptr 1 0)]=true:=by simp[jM,aE,AV.ab,aD _ _ _ (dM p),aD _ _ _ (aZ w)]
 repeat' first|refine AD.bx (v := .agg [_,_,_,_,_,_,_,_]) ?_|refine .br ?_|refine .s1 ?_|(refine .q ?_ ?_<;>intro O)|refine b7 rfl ?_|refine fT rfl ?_|refine bC (agg:=true) rfl rfl rfl rfl rfl rfl rfl rfl rfl rfl rfl ?_|refine E1 (B0:=evB s d A st) (B1:=evB s d A r.2) rfl rfl a1 rfl rfl q0 q1 q2 q3 q4 f rfl (aB _) ?_|fail
 exact⟨_,_,rfl,eM _ _,rfl,rfl⟩
def Mx(s:AJ)(d:AR)(A:List AF)(hx:Am s d A)(pl:Pl)(hplk:Aw pl)(hpl:Bs s d A pl)(tb:AG)(w:List Sl):∀(n:Nat) (v:AH),v.size<=n->Bd s d A pl tb w v
 |0,v,h=>by have:=v.au;omega
 |n+1,v,h=>Mw s d A hx pl hplk hpl tb w v λk hk=>Mx s d A hx pl hplk hpl tb w n v.l[k] (by have:=dK hk;omega)
def Vj{B:List Ob}{t0 t1 t2:Tok}{c nx:Nat}{d xs:List AV}{a:AG}{f g h i k l m o:AV}(hk:d.length=c)(p:xs.length=nx)(r:c<=1073741824)(t:nx<=1073741824):
  AI prog 54 [.ao 3 10 1 0 0, .str a] ⟨B,[t0,t1,t2, .aa [.agg [f,g,h,i,k,l,m, .slice d (.own 4 1),o, .slice xs (.own 5 1)]], .len c, .len nx]⟩ (λe Y=>e = .ret (.ao 6 10 1 0 0)/\
   Y=⟨B,[t0,t1,t2, .aa [.agg [f,g,h,i,k,l,m, .slice (d++[.str a]) (.own 4 1),o, .slice (xs++[.ao 6 10 1 0 0]) (.own 5 1)]], .len (c+1), .len (nx+1), .aa [kn0 false]]⟩):=by
 have X:AI prog 107 [.ao 3 10 1 0 0] ⟨B,[t0,t1,t2, .aa [.agg [f,g,h,i,k,l,m, .slice (d++[.str a]) (.own 4 1),o, .slice xs (.own 5 1)]], .len (c+1), .len nx]⟩ (λe Y=>e = .ret (.ao 6 10 1 0 0)/\
   Y=⟨B,[t0,t1,t2, .aa [.agg [f,g,h,i,k,l,m, .slice (d++[.str a]) (.own 4 1),o, .slice (xs++[.ao 6 10 1 0 0]) (.own 5 1)]], .len (c+1), .len (nx+1), .aa [kn0 false]]⟩):=
  VH (j:=3) (b:=5) (n:=nx) rfl rfl p Wd om
 refine aS [4] func54 ?_
 repeat' first|refine fT rfl ?_|refine .s1 ?_|(refine .q ?_ ?_<;>intro O)|refine fD rfl rfl rfl rfl rfl rfl ?_|refine bW (n:=c) rfl rfl rfl rfl rfl rfl rfl rfl hk rfl Wa Wa rfl ?_|refine bC (agg:=true) rfl rfl rfl rfl rfl rfl rfl rfl rfl rfl rfl ?_|refine dR rfl X (aB _) ?_|fail
 exact⟨rfl,rfl⟩
def knP(m:Bool)(ks:List AG)(xs:List AV):AV := .agg [.int .i64 2, .bool m, .int .i64 0, .int .i64 0, .str [], .slice [] .nil, .slice [] .nil, .slice (ks.map AV.str) (.own 4 1), .slice [] .nil, .slice xs (.own 5 1)]
def KG(st:AS)(p:Ab)(e:Int)(l:List Tok):Tok.len (st.F.length+1) :: .aa (kI st.R) :: .len (eD st.R).length::l=evT (st.bad p e)++l:=by grind[evT,AS.bad,length_append]
def tP{l:List Sl}{c:Nat}(h:Ai l c):Ai (bO l) c:=by
 have d:∀a b:List Sl,aC Sl.size (a++b)=aC Sl.size a+aC Sl.size b:=λa b=>by
  induction a with
  |nil=>simp[aC]
  |cons x a E=>rw[List.cons_append,aC,aC,E];omega
 have hz:∀l:List Sl,aC Sl.size (bO l)<=aC Sl.size l:=λl=>by
  induction l with
  |nil=>exact le_refl _
  |cons x l E=>
   have f:=x.ay;have h3:bO (x::l)=x.O++bO l:=by simp[bO]
   rw[h3,d,aC];omega
 refine⟨le_trans (hz l) h.sz,λy e=> ?_⟩;obtain⟨x,hx,e⟩:=List.mem_flatMap.1 e;have f:=x.ay;have h3:=aN (size:=Sl.size) e;exact⟨(x.b4.1 (h.all x hx).1).2.2.2 y e,by have:=(h.all x hx).2;omega⟩
def tQ(s:AJ)(wr within:Bool)(A:List AF)(dfl:AP->VE)(a:List MF):∀ps:List AP,(kW s wr within A dfl a ps).1.length<=ps.length
 |[]=>by rw[kW];exact le_refl _
 |p::ps=>by have E:=tQ s wr within A dfl a ps;rw[kW];grind
theorem My:bP.size=6:=rfl
def KH:bP.ok:=YB
def Gb(n m:Nat)(h:2<m)(st:AS)(l:List Tok)(a:aL n m l=true):aL n m (evT st++l)=true:=by rw[gZ,mS _ _ h,a];rfl
def TN(s:AJ)(d:AR)(A:List AF)(hx:Am s d A)(pl:Pl)(a5:Bool)(dv:AV)(u:AG)(row:Row)(hrow:row.aq.length<=1048576)(f:AG)(x:Sl)(C:List Sl)(l:List Sl)(p:Ab)(st:AS)(m:Bool)(h:List AG)(xs:List Nd)(hF:st.F.length<=4096)(aa:x.ok/\x.size<=1048576)(b0:aC Sl.size (x::C)<=68719476736)(hp:p.length<=4096)
  (b4:h.length<=1048576) (bd:xs.length<=1048576)
  (h3:x.name≠aY->(dU s (aK s u x.name).1.params x.args A).2=0->(ofB s u (aK s u x.name).1).1.how=3->a5=false/\dv = .nilfn)
  (Di:x.name≠aY->(dU s (aK s u x.name).1.params x.args A).2=0->(ofB s u (aK s u x.name).1).1.how≠3->
   Bo s d A 63 [.ptr 0 0, .ao 3 10 1 0 0,(aK s u x.name).1.t.C,(if (ofB s u (aK s u x.name).1).1.how=2 then (bT (ofB s u (aK s u x.name).1).1.arg (dU s (aK s u x.name).1.params x.args A).1).1 else iC row (ofB s u (aK s u x.name).1).1.col).C,jM .nilp (ofB s u (aK s u x.name).1).1.table [] ⟨[],0,0⟩ (bO (x::C)) (p++[⟨f,0⟩])] st (knG 0 (isT (aK s u x.name).1.t))
    (dD s pl (ofB s u (aK s u x.name).1).1.table (bO (x::C)) (if (ofB s u (aK s u x.name).1).1.how=2 then (bT (ofB s u (aK s u x.name).1).1.arg (dU s (aK s u x.name).1.params x.args A).1).1 else iC row (ofB s u (aK s u x.name).1).1.col) (aK s u x.name).1.t (p++[⟨f,0⟩]) st.ah)):
  AI prog 26 [.ptr 0 0,plE (.ao 3 10 1 0 0) u row l p,AT.C ⟨f,x::C⟩,dv] ⟨evB s d A st,evT st++[.aa [knP m h (xs.map λy => .ac y.ak)], .len h.length, .len xs.length]⟩
   (λe Y=>e = .ret (.tup [])/\Y=⟨evB s d A (b6 s d A pl a5 u row ⟨f,x::C⟩ (p++[⟨f,0⟩]) st).2,evT (b6 s d A pl a5 u row ⟨f,x::C⟩ (p++[⟨f,0⟩]) st).2++
    [.aa [knP m (h++[f]) ((xs++[(b6 s d A pl a5 u row ⟨f,x::C⟩ (p++[⟨f,0⟩]) st).1]).map λy => .ac y.ak)], .len (h.length+1), .len (xs.length+1)]⟩):=by
 have bc:=hx.hs;obtain⟨f1,f2⟩:=jT hx.so u x.name;have b2:(aK s u x.name).1.size=(aK s u x.name).1.name.length+aC AP.size (aK s u x.name).1.params+(aK s u x.name).1.t.size+aC AO.size (aK s u x.name).1.ar+4:=rfl;have b1:(aK s u x.name).1.t.name.length<=(aK s u x.name).1.t.size:=X7
 have a1:AI prog 54 [.ao 3 10 1 0 0, .str f] ⟨evB s d A st,evT st++[.aa [knP m h (xs.map λy => .ac y.ak)], .len h.length, .len xs.length]⟩ (λe Y=>e = .ret (.ao 6 10 1 0 0)/\
   Y=⟨evB s d A st,evT st++[.aa [.agg [.int .i64 2, .bool m, .int .i64 0, .int .i64 0, .str [], .slice [] .nil, .slice [] .nil, .slice (h.map AV.str++[.str f]) (.own 4 1), .slice [] .nil, .slice ((xs.map λy => .ac y.ak)++[.ao 6 10 1 0 0]) (.own 5 1)]], .len (h.length+1), .len (xs.length+1), .aa [kn0 false]]⟩):=
  Vj (length_map _) (length_map _) om om
 have b5:=aBF p ⟨f,0⟩ om;have g:=aCQ s d A hx st u f x C aa.2 aa.1;have hI:=wIs (aK s u x.name).1.t om;have hO:=bOf s u (aK s u x.name).1 om om;have hT:=MV u;have az:=Th (x::C) om;have x0:(List.map Sl.C (x::C))[0]? =some x.C:=rfl;have b3:=cN s d A st 3 om;have t3:=mS 2 3 om st;have ba:∀(a:Nd),h.map AV.str++[AV.str f]=(h++[f]).map AV.str:=λa=>Xp
 have be:∀(a:Nd),(xs.map λy=>AV.ac y.ak)++[AV.ac a.ak]=(xs++[a]).map λy=>AV.ac y.ak:=λa=>Js xs a
 have ab:∀r:Nd×AS,AI prog 26 [.ptr 0 0,plE (.ao 3 10 1 0 0) u row l p,AT.C ⟨f,x::C⟩,dv] ⟨evB s d A st,evT st++[.aa [knP m h (xs.map λy => .ac y.ak)], .len h.length, .len xs.length]⟩
   (λe am=>∃v a8,e = .ret v/\AK am v a8 (.tup [])/\a8.B.take 2=evB s d A r.2/\a8.T.take 6=evT r.2++[.aa [knP m (h++[f]) ((xs++[r.1]).map λy => .ac y.ak)], .len (h.length+1), .len (xs.length+1)])-> 
   AI prog 26 [.ptr 0 0,plE (.ao 3 10 1 0 0) u row l p,AT.C ⟨f,x::C⟩,dv] ⟨evB s d A st,evT st++[.aa [knP m h (xs.map λy => .ac y.ak)], .len h.length, .len xs.length]⟩
   (λe Y=>e = .ret (.tup [])/\Y=⟨evB s d A r.2,evT r.2++[.aa [knP m (h++[f]) ((xs++[r.1]).map λy => .ac y.ak)], .len (h.length+1), .len (xs.length+1)]⟩):=λr hr=>by
  have ak:aE 2 6 ((xs++[r.1]).map λy => .ac y.ak)=true:=aD _ _ _ (gS _);have al:aE 2 6 ((h++[f]).map AV.str)=true:=aD _ _ _ (aT _);refine gI (nB:=2) (mT:=6) hr (le_refl _) (le_refl _) rfl (cN _ _ _ _ _ om) (Gb _ _ om _ _ ?_);simp only[aL,Tok.ab,aE,AV.ab,knP,ak,al];rfl
 refine ab _ (aS [] func26 ?_);have a0:aE 2 3 [.ptr 0 0, .str u,AT.C ⟨f,x::C⟩]=true:=by have:=aF 2 3 _ (AT.K ⟨f,x::C⟩);rw[aE,aE,aE,this];rfl
 unfold b6;dsimp only[List.headD];by_cases c1:x.name=aY
 ·have e1:(x.name==aY)=true:=by simp[c1]
  unfold aY at e1;rw[if_pos c1,if_pos c1]at g;rw[if_pos c1];generalize aK s u x.name=fr at *
  have w:(AV.tup [fr.1.C, .slice (([]:List AF).map AF.C) .no, .int .i64 0]).ab 2 3=true:=aF _ _ _ WH
  repeat' first|refine .br ?_|refine .s1 ?_|(refine .q ?_ ?_<;>intro O)|refine dR rfl a1 (aB _) ?_|refine fT rfl ?_|refine iI (B0:=evB s d A st) (B1:=evB s d A st) (T0:=evT st) (T1:=evT st) (B:=[]) (T:=[_,_,_,_]) rfl g rfl (.inl rfl) (.inr rfl) (le_refl _) (le_refl _) b3 t3 b3 t3 a0 w (aB _) ?_|refine bC (agg:=true) rfl rfl rfl rfl rfl rfl rfl rfl rfl rfl rfl ?_|fail
  refine⟨_,_,rfl,AK.trans (eJ (k:=6) rfl (Jo 0 (isT fr.1.t) (iF u) _ _) rfl) (cV (k:=3) (i:=0) (c:=9) rfl rfl rfl (nA (bE (k:=6) (n:=1) (j:=0) rfl rfl rfl rfl)) rfl rfl),rfl, ?_⟩;simp only[knP,map_append,map_cons,map_nil];rfl
 have e1:(x.name==aY)=false:=by simp[c1]
 unfold aY at e1;rw[if_neg c1,if_neg c1]at g;rw[if_neg c1];have w:(AV.tup [(aK s u x.name).1.C, .slice ((dU s (aK s u x.name).1.params x.args A).1.map AF.C) .no, .int .i64 (dU s (aK s u x.name).1.params x.args A).2]).ab 2 3=true:=aF _ _ _ Yf;have ag:(dU s (aK s u x.name).1.params x.args A).1.length<=9223372036854775807:=by have h1:=tQ s true false A (kX s) (mkM s true A (cY s) x.args) (aK s u x.name).1.params;have h2:=aJ (size:=AP.size) AP.au (aK s u x.name).1.params;unfold dU;omega
 generalize dU s (aK s u x.name).1.params x.args A=a at *
 generalize aK s u x.name=fr at *
 by_cases c2:a.2=0
 case neg=>
  have n2:(a.2 != 0)=true:=by simpa using c2
  rw[if_pos c2];have z:∀(x:List Ob) (e:Int),_:=λ(x:List Ob) (e:Int)=>J5 s d A rdV lyV (.cells (kR st.L st.R.length)::x) (evT st++[.aa [.agg [.int .i64 2, .bool m, .int .i64 0, .int .i64 0, .str [], .slice [] .nil, .slice [] .nil, .slice (h.map AV.str++[.str f]) (.own 4 1), .slice [] .nil, .slice ((xs.map λy => .ac y.ak)++[.ao 6 10 1 0 0]) (.own 5 1)]], .len (h.length+1), .len (xs.length+1), .aa [knG 0 (isT fr.1.t)], .len 2]) st.F 6 (p++[⟨f,0⟩]) e rfl rfl Wd om
  repeat' first|refine .br ?_|refine bJ (d:=13) rfl rfl rfl rfl rfl ?_|refine b8 13 rfl (bE rfl rfl rfl rfl) ?_|refine .s1 ?_|(refine .q ?_ ?_<;>intro O)|refine dR rfl a1 (aB _) ?_|refine b7 rfl ?_|refine fT rfl ?_|refine iI (B0:=evB s d A st) (B1:=evB s d A st) (T0:=evT st) (T1:=evT st) (B:=[]) (T:=[_,_,_,_]) rfl g rfl (.inl rfl) (.inr rfl) (le_refl _) (le_refl _) b3 t3 b3 t3 a0 w (aB _) ?_|refine dR rfl (z _ _) (aB _) ?_|refine bC (agg:=true) rfl rfl rfl rfl rfl rfl rfl rfl rfl rfl rfl ?_|fail
  refine⟨_,_,rfl,AK.trans (eJ (k:=6) rfl (iN 3 (isT fr.1.t) _ _ _ _) rfl) (cV (k:=3) (i:=0) (c:=9) rfl rfl rfl (nA (bE (k:=6) (n:=1) (j:=0) rfl rfl rfl rfl)) rfl rfl),rfl, ?_⟩;simp only[knP,map_append,map_cons,map_nil];exact KG st.ah (p++[⟨f,0⟩]) a.2 _
 have n2:(a.2 != 0)=false:=by rw[c2];rfl
 rw[if_neg (by simp[c2])];have ah:(ofB s u fr.1).2=false->(ofB s u fr.1).1=sK:=λhb=>by
  unfold ofB at hb ⊢;split at hb
  ·cases hb
  ·rename_i hn;rw[if_neg hn]
 generalize ofB s u fr.1=bb at *
 obtain⟨b,bk⟩:=bb;dsimp only at hO ah Di h3 ⊢;by_cases c3:b.how=3
 ·have n3:(b.how==2)=false:=by rw[c3];rfl
  have n4:(b.how != 3)=false:=by rw[c3];rfl
  have n5:((14:Int) != 0)=true:=rfl;obtain⟨aj,ai⟩:=h3 c1 c2 c3;subst aj;subst ai;rw[if_pos c3,if_neg Wd];have z:∀(x:List Ob) (e:Int),_:=λ(x:List Ob) (e:Int)=>J5 s d A rdV lyV (.cells (kR st.L st.R.length)::x) (evT st++[.aa [.agg [.int .i64 2, .bool m, .int .i64 0, .int .i64 0, .str [], .slice [] .nil, .slice [] .nil, .slice (h.map AV.str++[.str f]) (.own 4 1), .slice [] .nil, .slice ((xs.map λy => .ac y.ak)++[.ao 6 10 1 0 0]) (.own 5 1)]], .len (h.length+1), .len (xs.length+1), .aa [knG 0 (isT fr.1.t)], .len 2]) st.F 6 (p++[⟨f,0⟩]) e rfl rfl Wd om
  repeat' first|refine .br ?_|refine bJ (d:=13) rfl rfl rfl rfl rfl ?_|refine b8 13 rfl (bE rfl rfl rfl rfl) ?_|refine .s1 ?_|(refine .q ?_ ?_<;>intro O)|refine dR rfl a1 (aB _) ?_|refine Mv rfl rfl rfl rfl ?_|refine b7 rfl ?_|refine fT rfl ?_|refine iI (B0:=evB s d A st) (B1:=evB s d A st) (T0:=evT st) (T1:=evT st) (B:=[]) (T:=[_,_,_,_]) rfl g rfl (.inl rfl) (.inr rfl) (le_refl _) (le_refl _) b3 t3 b3 t3 a0 w (aB _) ?_|refine dR rfl (z _ _) (aB _) ?_|refine bC (agg:=true) rfl rfl rfl rfl rfl rfl rfl rfl rfl rfl rfl ?_|fail
  refine⟨_,_,rfl,AK.trans (eJ (k:=6) rfl (iN 3 (isT fr.1.t) _ _ _ _) rfl) (cV (k:=3) (i:=0) (c:=9) rfl rfl rfl (nA (bE (k:=6) (n:=1) (j:=0) rfl rfl rfl rfl)) rfl rfl),rfl, ?_⟩;simp only[knP,map_append,map_cons,map_nil];exact KG st.ah (p++[⟨f,0⟩]) 14 _
 rw[if_neg c3];have n4:(b.how != 3)=true:=by simpa using c3
 have Di:=Di c1 c2 c3;unfold Bo at Di;have a6:AI prog 63 [.ptr 0 0, .ao 3 10 1 0 0,fr.1.t.C,(if b.how=2 then (bT b.arg a.1).1 else iC row b.col).C,jM .nilp b.table [] ⟨[],0,0⟩ (bO (x::C)) (p++[⟨f,0⟩])] ⟨evB s d A st,evT st++[.aa [knG 0 (isT fr.1.t)]]⟩ _:=Di;have q1:=cN s d A st 3 om;have q2:=pZ 2 3 om st (knG 0 (isT fr.1.t)) rfl;have q3:=cN s d A st 4 om;have q4:=pZ 2 4 om st (knG 0 (isT fr.1.t)) rfl;have q7:=aD 2 3 _ (mJ fr.1.t (if b.how=2 then (bT b.arg a.1).1 else iC row b.col) b.table [] ⟨[],0,0⟩ (bO (x::C)) (p++[⟨f,0⟩]));have q8:aE 2 4 (AV.ptr 0 0::AV.ao 3 10 1 0 0::[fr.1.t.C,(if b.how=2 then (bT b.arg a.1).1 else iC row b.col).C,jM .nilp b.table [] ⟨[],0,0⟩ (bO (x::C)) (p++[⟨f,0⟩])])=true:=by have:=aD 2 4 _ (mJ fr.1.t (if b.how=2 then (bT b.arg a.1).1 else iC row b.col) b.table [] ⟨[],0,0⟩ (bO (x::C)) (p++[⟨f,0⟩]));rw[aE,aE,this];rfl
 have ao:=get b.arg a.1 ag;have an:=col row b.col om;generalize dD s pl b.table (bO (x::C)) (if b.how=2 then (bT b.arg a.1).1 else iC row b.col) fr.1.t (p++[⟨f,0⟩]) st.ah=r at *
 have q5:=cN s d A r.2 3 om;have q6:=pZ 2 3 om r.2 _ (eA r.1);by_cases c4:b.how=2
 ·have n3:(b.how==2)=true:=by rw[c4];rfl
  rw[if_pos c4]at a6 q7 q8
  repeat' first|refine .br ?_|refine bJ (d:=13) rfl rfl rfl rfl rfl ?_|refine b8 13 rfl (bE rfl rfl rfl rfl) ?_|refine .s1 ?_|(refine .q ?_ ?_<;>intro O)|refine dR rfl a1 (aB _) ?_|refine b7 rfl ?_|refine fT rfl ?_|refine iI (B0:=evB s d A st) (B1:=evB s d A st) (T0:=evT st) (T1:=evT st) (B:=[]) (T:=[_,_,_,_]) rfl g rfl (.inl rfl) (.inr rfl) (le_refl _) (le_refl _) b3 t3 b3 t3 a0 w (aB _) ?_|refine tO (B0:=evB s d A st) (B1:=evB s d A r.2) (T0:=evT st) (T1:=evT r.2) (x0 := .aa [knG 0 (isT fr.1.t)]) (x1 := .aa [r.1.ak]) (M:=[_,_,_]) (M2:=[_]) (pre:=[.ptr 0 0]) (o:=[_,_,_]) rfl a6 rfl rfl rfl q1 q2 q3 q4 q5 q6 rfl q7 q8 rfl (aB _) ?_|refine bC (agg:=true) rfl rfl rfl rfl rfl rfl rfl rfl rfl rfl rfl ?_|fail
  refine⟨_,_,rfl,cV (k:=3) (i:=0) (c:=9) rfl rfl rfl (nA (bE (k:=6) (n:=1) (j:=0) rfl rfl rfl rfl)) rfl rfl,rfl, ?_⟩;simp only[knP,map_append,map_cons,map_nil];rfl
 ·have n3:(b.how==2)=false:=by simpa using c4
  rw[if_neg c4]at a6 q7 q8
  repeat' first|refine .br ?_|refine bJ (d:=13) rfl rfl rfl rfl rfl ?_|refine b8 13 rfl (bE rfl rfl rfl rfl) ?_|refine .s1 ?_|(refine .q ?_ ?_<;>intro O)|refine dR rfl a1 (aB _) ?_|refine b7 rfl ?_|refine fT rfl ?_|refine iI (B0:=evB s d A st) (B1:=evB s d A st) (T0:=evT st) (T1:=evT st) (B:=[]) (T:=[_,_,_,_]) rfl g rfl (.inl rfl) (.inr rfl) (le_refl _) (le_refl _) b3 t3 b3 t3 a0 w (aB _) ?_|refine tO (B0:=evB s d A st) (B1:=evB s d A r.2) (T0:=evT st) (T1:=evT r.2) (x0 := .aa [knG 0 (isT fr.1.t)]) (x1 := .aa [r.1.ak]) (M:=[_,_,_]) (M2:=[_]) (pre:=[.ptr 0 0]) (o:=[_,_,_]) rfl a6 rfl rfl rfl q1 q2 q3 q4 q5 q6 rfl q7 q8 rfl (aB _) ?_|refine bC (agg:=true) rfl rfl rfl rfl rfl rfl rfl rfl rfl rfl rfl ?_|fail
  refine⟨_,_,rfl,cV (k:=3) (i:=0) (c:=9) rfl rfl rfl (nA (bE (k:=6) (n:=1) (j:=0) rfl rfl rfl rfl)) rfl rfl,rfl, ?_⟩;simp only[knP,map_append,map_cons,map_nil];rfl
def VY(s:AJ)(d:AR)(A:List AF)(hx:Am s d A)(pl:Pl)(hplk:Aw pl)(hpl:Bs s d A pl)(u:AG)(row:Row)(hrow:BQ row)(f:AG)(x:Sl)(C:List Sl)(i:List Sl)(p:Ab)(st:AS)(m:Bool)(j:List AG)(xs:List Nd)(h:At st)(hs:Ai (x::C) st.c)(hp:p.length<=st.c)(a3:st.c<=4096)
  (q:j.length<=1048576) (r:xs.length<=1048576) (g:Bool) (o:AV) (h3:x.name≠aY->(dU s (aK s u x.name).1.params x.args A).2=0->(ofB s u (aK s u x.name).1).1.how=3->g=false/\o = .nilfn) (O:(b6 s d A pl g u row ⟨f,x::C⟩ (p++[⟨f,0⟩]) st).2.c<=4096):
  AI prog 26 [.ptr 0 0,plE (.ao 3 10 1 0 0) u row i p,AT.C ⟨f,x::C⟩,o] ⟨evB s d A st,evT st++[.aa [knP m j (xs.map λy => .ac y.ak)], .len j.length, .len xs.length]⟩
   (λe Y=>e = .ret (.tup [])/\Y=⟨evB s d A (b6 s d A pl g u row ⟨f,x::C⟩ (p++[⟨f,0⟩]) st).2,evT (b6 s d A pl g u row ⟨f,x::C⟩ (p++[⟨f,0⟩]) st).2++
    [.aa [knP m (j++[f]) ((xs++[(b6 s d A pl g u row ⟨f,x::C⟩ (p++[⟨f,0⟩]) st).1]).map λy => .ac y.ak)], .len (j.length+1), .len (xs.length+1)]⟩):=by
 have hF:=h.F;have a6:=hx.hs;obtain⟨f1,f2⟩:=jT hx.so u x.name;have a5:(aK s u x.name).1.size=(aK s u x.name).1.name.length+aC AP.size (aK s u x.name).1.params+(aK s u x.name).1.t.size+aC AO.size (aK s u x.name).1.ar+4:=rfl;have a4:(aK s u x.name).1.t.name.length<=(aK s u x.name).1.t.size:=X7
 refine TN s d A hx pl g o u row hrow.len f x C i p st m j xs om ⟨(hs.all x Wb).1,(hs.all x Wb).2⟩ (by have:=hs.sz;omega) om q r h3 λc1 c2 v=> ?_
 unfold b6 at O;dsimp only[List.headD]at O;rw[if_neg c1,if_neg (by simp[c2]),if_neg v]at O;have l := @G9 s u (aK s u x.name).1;have k:(ofB s u (aK s u x.name).1).2=false->(ofB s u (aK s u x.name).1).1=sK:=λhb=>by
  unfold ofB at hb ⊢;split at hb
  ·cases hb
  ·rename_i hn;rw[if_neg hn]
 generalize dU s (aK s u x.name).1.params x.args A=a at *
 generalize aK s u x.name=fr at *
 generalize ofB s u fr.1=w at *
 obtain⟨b,bk⟩:=w;dsimp only at O l k v ⊢;have hv:CJ s (if b.how=2 then (bT b.arg a.1).1 else iC row b.col) fr.1.t:=by
  by_cases n:b.how=2
  ·left;cases hb:bk with
   |true=>exact((l hb).2.2 (.inr n)).1
   |false=>rw[k hb]at n;exact absurd n Wd
  ·right;rw[if_neg n];unfold iC;rcases NY b.col row.aq with e|⟨z,hz,e⟩
   ·rw[e];exact⟨DS (by rw[My];decide),KH⟩
   ·rw[e];exact hrow.bl z hz
 exact Mx s d A hx pl hplk hpl b.table (bO (x::C)) _ (if b.how=2 then (bT b.arg a.1).1 else iC row b.col) (le_refl _) fr.1.t (p++[⟨f,0⟩]) st.ah (isT fr.1.t) om h.ah.ok ((tP hs).mono (Nat.le_succ _)) (by rw[length_append];exact Nat.succ_le_succ hp)
  (by have:=Jr s pl hplk b.table (bO (x::C)) (if b.how=2 then (bT b.arg a.1).1 else iC row b.col) fr.1.t (p++[⟨f,0⟩]) st.ah h.ah.ok;omega) hv O
def nS{α:Type}(a:α->AS->Nd×AS):∀(l:List α) (k:Nat) (h:k<l.length) (st:AS),
  bX a (l.take (k+1)) st=((bX a (l.take k) st).1++[(a l[k] (bX a (l.take k) st).2).1],(a l[k] (bX a (l.take k) st).2).2)
 |[],k,h,st=>by simp at h
 |g::l,0,h,st=>by rw[take_succ_cons,take_zero,take_zero];simp only[bX,List.nil_append,List.getElem_cons_zero]
 |g::l,k+1,h,st=>by have E:=nS a l k Wu (a g st).2;rw[take_succ_cons,take_succ_cons,bX,bX];simp_all
def xU{α:Type}(a:α->AS->Nd×AS):∀(l:List α) (st:AS),(bX a l st).1.length=l.length
 |[],_=>rfl
 |g::l,st=>by have:=xU a l (a g st).2;rw[bX,length_cons,length_cons,this]
def zD{α:Type}(a:α->AS->Nd×AS)(hf:∀g st,At st->BC st (a g st).2):∀(l:List α) (k:Nat) (st:AS),At st->(bX a (l.take k) st).2.c<=(bX a l st).2.c
 |[],k,st,h=>by rw[List.take_nil];exact le_refl _
 |g::l,0,st,h=>by rw[take_zero];exact(xC a hf (g::l) st h).c
 |g::l,k+1,st,h=>by exact zD a hf l k _ (hf g st h).ok
def Jt{α:Type}(a:α->AS->Nd×AS)(hf:∀g st,At st->BC st (a g st).2)(ht:∀g st,At st->st.c+1<=(a g st).2.c):∀(l:List α) (st:AS),At st->st.c+l.length<=(bX a l st).2.c
 |[],st,h=>le_refl _
 |g::l,st,h=>by have b:=ht g st h;have d:=Jt a hf ht l _ (hf g st h).ok;rw[bX,length_cons];grind
def KI(s:AJ)(d:AR)(A:List AF)(pl:Pl)(hpl:Aw pl)(u:AG)(row:Row)(g:AT)(p:Ab)(st:AS)(h:At st):st.c+1<=(b6 s d A pl false u row g p st).2.c:=by
 unfold b6;dsimp only;split
 ·exact le_refl _
 split
 ·exact le_refl _
 split
 ·exact le_refl _
 ·exact(nY s pl hpl _ _ _ _ _ _ h.ah.ok).c
def p5(s:AJ)(d:AR)(A:List AF)(hx:Am s d A)(u:AG){w:List Sl}{c:Nat}(hs:Ai w c):∀g∈bF s d A u w,g.O≠[]/\Ai g.O (c+1):=λg b=>by
 obtain⟨h,e⟩:=hx.aj;have i:=hx.hd;have ha:=NF s d A u (λx=>x.ok/\x.size<=1048576) (λx hx y a=>⟨(x.b4.1 hx.1).2.2.2 y a,by have e:=x.ay;have h3:=aN (size:=Sl.size) a;omega⟩)
  (λf hf y a=>⟨hx.dk f hf y a,by have h3:=aN (size:=Sl.size) a;have h4:aC Sl.size f.O<=aC (λf:Af=>aC Sl.size f.O) d.aj:=aN (size:=λf:Af=>aC Sl.size f.O) hf;omega⟩) w hs.all g b
 have ht:=Hs s d A u w;have j:aC Sl.size g.O<=Hr (bF s d A u w):=aN (size:=λg:AT=>aC Sl.size g.O) b;have:=hs.sz;exact⟨ha.1,om,ha.2⟩
def fmG(s:AJ)(d:AR)(A:List AF)(n:Nat)(u:AG)(row:Row)(p:Ab)(g:AT)(st:AS):Nd×AS:=b6 s d A (bV s d A n false) false u row g (p++[⟨g.key,0⟩]) st
def N3(s:AJ)(d:AR)(A:List AF)(hx:Am s d A)(n:Nat)(hplk:Aw (bV s d A n false))(hpl:Bs s d A (bV s d A n false))(u:AG)(row:Row)(hrow:BQ row)(g:AT)(x:Sl)(C:List Sl)(i:g.O=x::C)(a:List Sl)(p:Ab)(st:AS)(m:Bool)(b:List AG)(xs:List Nd)(h:At st)(hs:Ai g.O st.c)(hp:p.length<=st.c)(f:st.c<=4096)
  (j:b.length<=1048576) (k:xs.length<=1048576) (O:(fmG s d A n u row p g st).2.c<=4096):
  AI prog 26 [.ptr 0 0,plE (.ao 3 10 1 0 0) u row a p,g.C, .nilfn] ⟨evB s d A st,evT st++[.aa [knP m b (xs.map λy => .ac y.ak)], .len b.length, .len xs.length]⟩
   (λe Y=>e = .ret (.tup [])/\Y=⟨evB s d A (fmG s d A n u row p g st).2,evT (fmG s d A n u row p g st).2++[.aa [knP m (b++[g.key]) ((xs++[(fmG s d A n u row p g st).1]).map λy => .ac y.ak)], .len (b.length+1), .len (xs.length+1)]⟩):=by obtain⟨l,o⟩:=g;subst i;exact VY s d A hx (bV s d A n false) hplk hpl u row hrow l x C a p st m b xs h hs hp f j k false .nilfn (λ_ _ _=>⟨rfl,rfl⟩) O
def VZ(s:AJ)(d:AR)(A:List AF)(hx:Am s d A)(n:Nat)(hpl:Bs s d A (bV s d A n false)):Bs s d A (bV s d A (n+1) false):=by
 intro u row w p m st h hs hrow hp O;have hplk:=nZ s d A n;have a1:=nZ s d A (n+1) u row w p m st h;have ab:st.c<=4096:=le_trans a1.c O;have a0:=Jp s d A hx st u row w p hs ab;have ah:=p5 s d A hx u hs;have b0:=Jt (fmG s d A n u row p) (λg st h=>lI s d A _ hplk u row g _ st h) (λg st h=>KI s d A _ hplk u row g _ st h) (bF s d A u w) st.ah h.ah.ok;have ac:=zD (fmG s d A n u row p) (λg st h=>lI s d A _ hplk u row g _ st h) (bF s d A u w);have ae:=nS (fmG s d A n u row p) (bF s d A u w);have ad:=λl st h=>xC (fmG s d A n u row p) (λg st h=>lI s d A _ hplk u row g _ st h) l st h
 have v:=λl=>xU (fmG s d A n u row p) l
 have aa:bV s d A (n+1) false u row w p m st=(.mk 2 m bP ((bF s d A u w).map AT.key) (bX (fmG s d A n u row p) (bF s d A u w) st.ah).1,(bX (fmG s d A n u row p) (bF s d A u w) st.ah).2):=rfl;rw[aa]at O ⊢;dsimp only at O;have e0:evB s d A st=evB s d A st.ah:=rfl;have e1:evT st=evT st.ah:=rfl;have a7:=h.ah.ok;have aq:∀g∈bF s d A u w,g.O≠[]/\Ai g.O st.ah.c:=ah;have ao:p.length<=st.ah.c:=Nat.le_succ_of_le hp;have b:=λ(g:AT) (x:Sl) (C:List Sl) (q:AS) (ks:List AG) (xs:List Nd) (f:g.O=x::C)=>N3 s d A hx n hplk hpl u row hrow g x C f w p q m ks xs
 rw[e0,e1]at a0;unfold Bo;rw[e0,e1];generalize st.ah=st at *
 generalize bF s d A u w=a at *
 refine gI (nB:=2) (mT:=4) (aS [] func23 ?_) (le_refl _) (le_refl _) rfl (cN _ _ _ _ _ om) (j6 _ _ (aF _ _ _ (eA _)));have b3:=cN s d A st 3 om;have t3:=mS 2 3 om st;have ag:aE 2 3 [.ptr 0 0,plE .undef u row w p]=true:=Z7
 have ap:AV.ab 2 3 (.slice (a.map AT.C) .no)=true:=aF _ _ _ Xa;have zz:AA [.ptr 0 0,plE (.ao 3 10 1 0 0) u row w p] [.ptr 0 0,plE .undef u row w p]:=AA.cons (aG _) (AA.cons (AC.agg (AA.cons (zC _) (aB _))) (aB _))
 repeat' first|refine .br ?_|refine .s1 ?_|(refine .q ?_ ?_<;>intro O)|refine iI (B0:=evB s d A st) (B1:=evB s d A st) (T0:=evT st) (T1:=evT st) (B:=[]) (T:=[_]) rfl a0 rfl (.inl rfl) (.inr rfl) (le_refl _) (le_refl _) b3 t3 b3 t3 ag ap zz ?_|fail
 refine b8 10 rfl (cV (k:=3) (i:=0) (c:=7) rfl rfl rfl (k9 (z:=1) rfl rfl rfl) rfl rfl) ?_;refine b8 10 rfl (cV (k:=3) (i:=0) (c:=9) rfl rfl rfl (k9 (z:=1) rfl rfl rfl) rfl rfl) ?_;have b2:a.length<=4096:=om
 refine bK a.length (λk=>[(10, .int .i64 k),(9, .int .i64 a.length),(8, .slice (a.map AT.C) .no),(3, .ac (plE (.ao 3 10 1 0 0) u row w p)),(0, .ptr 0 0)])
  (λk=>⟨evB s d A (bX (fmG s d A n u row p) (a.take k) st).2,evT (bX (fmG s d A n u row p) (a.take k) st).2++[.aa [knP m ((a.take k).map AT.key) ((bX (fmG s d A n u row p) (a.take k) st).1.map λy => .ac y.ak)], .len k, .len k]⟩)
  (λk=>True) ⟨rfl,congrArg (AV.int .i64) Wb,rfl,rfl,rfl,trivial⟩ rfl trivial λk b1 _=> ?_
 by_cases o:k<a.length
 ·have d1:decide ((k:Int)<(a.length:Int))=true:=by simp[o]
  have x1:(a.map AT.C)[k]? =some a[k].C:=by simp[o]
  have a8:=ae k o st;have a4:=ac (k+1) st a7;have e:=ad (a.take k) st a7;have am:=v (a.take k) st;have a2:(a.take k).length=k:=Wl
  have a5:BC _ _:=lI s d A (bV s d A n false) hplk u row a[k] (p++[⟨a[k].key,0⟩]) (bX (fmG s d A n u row p) (a.take k) st).2 e.ok;obtain⟨an,ar⟩:=aq a[k] (getElem_mem o);obtain⟨x,C,f⟩:=List.exists_cons_of_ne_nil an;have ak:(a.take k).map AT.key++[a[k].key]=(a.take (k+1)).map AT.key:=by rw[List.take_succ_eq_append_getElem o,map_append];rfl
  rw[a8]at a4;have a6:(fmG s d A n u row p a[k] (bX (fmG s d A n u row p) (a.take k) st).2).2.c<=4096:=le_trans a4 O;have t:=b a[k] x C (bX (fmG s d A n u row p) (a.take k) st).2 ((a.take k).map AT.key) (bX (fmG s d A n u row p) (a.take k) st).1 f e.ok (ar.mono e.c) (le_trans ao e.c) (le_trans a5.c a6) WF om a6;generalize bX (fmG s d A n u row p) (a.take k) st=q at *
  generalize fmG s d A n u row p a[k] q.2=r at *
  rw[length_map,a2,am,a2]at t;have ai:∀l:List Nd,aE 2 6 (l.map λy => .ac y.ak)=true:=λl=>aD _ _ _ (gS _)
  have aj:∀l:List AG,aE 2 6 (l.map AV.str)=true:=λl=>aD _ _ _ (aT _)
  have a3:∀(st:AS) (ks:List AG) (xs:List Nd) (j:Nat),aL 2 6 (evT st++[.aa [knP m ks (xs.map λy => .ac y.ak)], .len j, .len j])=true:=λst ks xs j=>Gb _ _ om _ _ (by simp only[aL,Tok.ab,aE,AV.ab,knP,ai,aj];rfl)
  have q1:=cN s d A q.2 6 om;have q2:=a3 q.2 ((a.take k).map AT.key) q.1 k;have q3:=cN s d A r.2 6 om;have q4:=a3 r.2 ((a.take k).map AT.key++[a[k].key]) (q.1++[r.1]) (k+1);have q0:(evT q.2++[Tok.aa [knP m ((a.take k).map AT.key) (q.1.map λy => .ac y.ak)], .len k, .len k]).length<=(evT r.2++[Tok.aa [knP m ((a.take k).map AT.key++[a[k].key]) ((q.1++[r.1]).map λy => .ac y.ak)], .len (k+1), .len (k+1)]).length:=le_refl _;have al:aE 2 6 [.ptr 0 0,plE (.ao 3 10 1 0 0) u row w p,a[k].C, .nilfn]=true:=by have:=aF 2 6 _ (AT.K a[k]);simp[plE,aE,AV.ab,dG,aD _ _ _ (dM p),this]
  repeat' first|refine .br ?_|refine .s1 ?_|(refine .q ?_ ?_<;>intro O)|refine dE (B0:=evB s d A q.2) (B1:=evB s d A r.2) rfl t rfl rfl q0 q1 q2 q3 q4 al rfl (aB _) ?_|fail
  refine⟨o,Z9, ?_, ?_, ?_,trivial⟩
  ·show aM 2 6 _=true;have af:aE 2 6 (a.map AT.C)=true:=aD _ _ _ (cH _);simp[aM,AV.ab,af,plE,aE,dG,aD _ _ _ (dM p)]
  ·show (aQ 2 6 (evB s d A r.2)&&aL 2 6 (evT r.2++[.aa [knP m ((a.take k).map AT.key++[a[k].key]) ((q.1++[r.1]).map λy => .ac y.ak)], .len (k+1), .len (k+1)]))=true;rw[q3,q4];rfl
  ·show (⟨evB s d A r.2,evT r.2++[.aa [knP m ((a.take k).map AT.key++[a[k].key]) ((q.1++[r.1]).map λy => .ac y.ak)], .len (k+1), .len (k+1)]⟩:St)=⟨evB s d A (bX (fmG s d A n u row p) (a.take (k+1)) st).2,evT (bX (fmG s d A n u row p) (a.take (k+1)) st).2++[.aa [knP m ((a.take (k+1)).map AT.key) ((bX (fmG s d A n u row p) (a.take (k+1)) st).1.map λy => .ac y.ak)], .len (k+1), .len (k+1)]⟩;rw[a8,ak]
 ·have d1:decide ((k:Int)<(a.length:Int))=false:=by simp;omega
  obtain rfl:k=a.length:=om
  rw[take_length];generalize bX (fmG s d A n u row p) a st=q at *
  refine .go ?_;refine⟨_,_,rfl,eJ (k:=3) (y:=(Nd.mk 2 m bP (a.map AT.key) q.1).ak) rfl ?_ rfl,rfl,rfl⟩;exact AC.agg (AA.cons (aG _) (AA.cons (aG _) (AA.cons (aG _) (AA.cons (aG _) (AA.cons (aG _) (AA.cons (AC.no (AA.eq (sA _ _ _ _).symm)) (AA.cons (AC.no (AA.eq (wO _ _ _ _).symm)) (AA.cons (AC.no (aB _)) (AA.cons (aG _)
   (AA.cons (AC.no (AA.eq Y9)) (aB _)))))))))))
def Ju(s:AJ)(d:AR)(A:List AF)(hx:Am s d A):∀n:Nat,Bs s d A (bV s d A n false)
 |0=>λu row w p m st h hs hr hp O=>by have:(bV s d A 0 false u row w p m st).2.c=st.c+1000000000:=rfl;omega
 |n+1=>VZ s d A hx n (Ju s d A hx n)
def Gc(s:AJ)(u name:AG):aC AP.size (aK s u name).1.params<=s.size:=by
 unfold aK;cases hf:jW s u name with
 |none=>exact zero_le _
 |some f=>
  unfold jW at hf;split at hf
  ·cases hf;exact zero_le _
  ·split at hf
   ·have b:=List.mem_of_find?_eq_some hf;unfold bN dW at b;split at b
    ·rename_i c a;split at a
     ·cases a;cases b
     ·have d:=l9 (List.mem_of_find?_eq_some a);have e:f.size<=aC Ag.size c.fields:=aN (size:=Ag.size) b;have h3:aC Ag.size c.fields<=c.size:=by unfold Ah.size;omega
      have h4:f.size=f.name.length+aC AP.size f.params+f.t.size+aC AO.size f.ar+4:=rfl;dsimp only;omega
    ·cases b
   ·cases hf
def V0(s:AJ)(u:AG)(f:Ag):(ofB s u f).1.how=0\/(ofB s u f).1.how=1\/(ofB s u f).1.how=2\/(ofB s u f).1.how=3:=by
 cases h:(ofB s u f).2 with
 |true=>obtain⟨a,b,_⟩:=Fk h;rw[b];exact(G8 a).1
 |false=>
  left;unfold ofB at h ⊢;split at h
  ·cases h
  ·rename_i hn;rw[if_neg hn];rfl
def tR{v:AH}(h:v.size<=68719476736)(a:v.ok):Ad v:=⟨DS h,a⟩
theorem Am.b2{s:AJ}{d:AR}{A:List AF}(hx:Am s d A):∀e∈s.ai,e.params.length<=68719476736/\∀p∈e.params,Bi p:=λe he=>by
 have a:=l9 he;have b:=hx.hs;have h3:=aJ AP.au e.params;have h4:aC AP.size e.params<=e.size:=WJ
 refine⟨om,λp hp=> ?_⟩;have c:=aN (size:=AP.size) hp;have f:=p.lens;exact⟨om,tR om ((hx.so e he).2 p hp)⟩
def Cq{s:AJ}{d:AR}{A:List AF}(hx:Am s d A)(u:AG)(x:Sl)(i:x.ok)(hz:x.size<=1048576):
  (dU s (aK s u x.name).1.params x.args A).1.length<=1048640/\∀m∈(dU s (aK s u x.name).1.params x.args A).1,m.name.length<=68719476736/\Ad m.v:=by
 obtain⟨k,e⟩:=jT hx.so u x.name;have l:=hx.hs;have h3:=aJ AP.au (aK s u x.name).1.params;have j:=x.ay;have h:(aK s u x.name).1.size=(aK s u x.name).1.name.length+aC AP.size (aK s u x.name).1.params+(aK s u x.name).1.t.size+aC AO.size (aK s u x.name).1.ar+4:=rfl;obtain⟨a,b⟩:=Pz s hx.b2 (aK s u x.name).1.params (λp hp=>by
  have f:=aN (size:=AP.size) hp;have g:=p.lens;exact⟨om,tR om (e p hp)⟩) x.args A (λy c=>by
  have f:=aN (size:=AF.size) c;have g:y.size=y.name.length+2+y.v.size:=rfl;exact tR om ((x.b4.1 i).2.1 y c)) hx.et
 grind
abbrev hdS(g:AT):Sl:=g.O.headD sl0
abbrev KJ(s:AJ)(u:AG)(g:AT):BO:=(ofB s u (aK s u (hdS g).name).1).1
abbrev Gd(s:AJ)(A:List AF)(u:AG)(g:AT):List AF×Int:=dU s (aK s u (hdS g).name).1.params (hdS g).args A
abbrev PD(s:AJ)(A:List AF)(u:AG)(g:AT):BF:=o9 (aK s u (hdS g).name).1 (KJ s u g) (Gd s A u g).1
def V2{y n b:Nat}(h:y<=401+(400-(n+1)) * 68719476736+b):y<=401+27487790694400+b:=WZ
structure BI(s:AJ)(A:List AF)(u:AG)(W:Nat->List AY->Prop):Prop where
 bz:∀k L,W k L->BT L
 mono:∀k m L,W k L->k<=m->W m L
 calm:∀name,Ap s (aK s u name).1.t.name
 fits:∀k L (g:AT),W k L->(hdS g).ok->(hdS g).size<=1048576->(KJ s u g).how=3->k<400->∃B,BN B L/\B+(Gd s A u g).1.length+1<=1048576
 b7:∀k L (g:AT),W k L->(hdS g).ok->(hdS g).size<=1048576->(KJ s u g).how=3->k<400->W (k+2) (f8 L (PD s A u g)).1
section
variable (s:AJ) (d:AR) (A:List AF) (hx:Am s d A) (pl:BP) (hup:BM pl) (B:Nat) (hp:CO s pl B) (u:AG) (row:Row) (hrow:BQ row) (W:Nat->List AY->Prop) (hW:BI s A u W)
include hx hup hp hrow hW
theorem V3(a:BG)(g:AT)(k:Nat)(hS:Ai g.O k)(o:g.O≠[])(h0:k<=a.n)(hk:W a.n a.L):
  W (kZ s A pl u row a g).n (kZ s A pl u row a g).L/\(400<=a.n->(kZ s A pl u row a g).n=a.n+1)/\(a.n<400->(kZ s A pl u row a g).n<=401+27487790694400+B):=by
 obtain⟨x,C,j⟩:=List.exists_cons_of_ne_nil o;have d:hdS g=x:=by unfold hdS;rw[j];rfl
 have e:=hS.all x (by rw[j];simp);obtain⟨w,i⟩:=Cq hx u x e.1 e.2;have hb:=tP hS;have hT:=hW.bz _ _ hk;have b:=uP s A pl hup u row a g;unfold kZ at b ⊢;rw[show g.O.headD sl0=x from d]at b ⊢;have hr:=hW.calm x.name;by_cases p:(dU s (aK s u x.name).1.params x.args A).2≠0\/400<a.n+1
 ·rw[if_pos p]at b ⊢;exact⟨hW.mono _ _ _ hk (Nat.le_succ _),λ_=>rfl,λh=>Wg⟩
 rw[if_neg p]at b ⊢;have q:a.n<400:=om
 refine⟨?_,λh=>om,λ_=> ?_⟩
 ·by_cases f:(ofB s u (aK s u x.name).1).1.how=3
  ·rw[if_pos f]at b ⊢;have:=hW.b7 a.n a.L g hk (by rw[d];exact e.1) (by rw[d];exact e.2) (by unfold KJ;rw[d];exact f) q;unfold PD KJ Gd at this;rw[d]at this;generalize o9 (aK s u x.name).1 (ofB s u (aK s u x.name).1).1 (dU s (aK s u x.name).1.params x.args A).1=c at *;rw[uQ s pl hp.same _ _ _ _ ⟨(f8 a.L c).1,a.n+1⟩ hr];exact hW.mono _ _ _ this (by have:=yC s pl hup (ofB s u (aK s u x.name).1).1.table (bO g.O) (f8 a.L c).2.1 (aK s u x.name).1.t ⟨(f8 a.L c).1,a.n+1⟩;dsimp only at this;omega)
  ·rw[if_neg f]at b ⊢;rw[uQ s pl hp.same _ _ _ _ ⟨a.L,a.n+1⟩ hr];exact hW.mono _ _ _ hk om
 ·have fin:∀(tb:AG) (v:AH) (L:List AY),rC v->BT L->(oM s pl tb (bO g.O) v (aK s u x.name).1.t ⟨L,a.n+1⟩).n<=401+27487790694400+B:=λtb v L y r=>by obtain⟨z,q2⟩:=Ra s pl hup B hp tb (bO g.O) k hb v (aK s u x.name).1.t ⟨L,a.n+1⟩ hr y r (Nat.le_succ_of_le h0);grind
  split
  ·rename_i f;have h3:=hW.b7 a.n a.L g hk (by rw[d];exact e.1) (by rw[d];exact e.2) (by unfold KJ;rw[d];exact f) q;unfold PD KJ Gd at h3;rw[d]at h3;exact fin _ _ _ (Fa (B:=1048576) (c:=o9 (aK s u x.name).1 (ofB s u (aK s u x.name).1).1 (dU s (aK s u x.name).1.params x.args A).1) ⟨hT.a8,hT.bl⟩ (λm l=>(i m l).2)).1.1 (hW.bz _ _ h3)
  ·refine fin _ _ _ ?_ hT;split
   ·exact(pY λm l=>(i m l).2).1
   ·exact(pY hrow.bl).1
end
def zE{s:AJ}(hs:A2 s)(A:List AF){u:AG}(ht:DZ s u):BI s A u (λ_ L=>BT L):=
 ⟨λ_ _ h=>h,λ_ _ _ h _=>h,λname=>(hs u ht name).1,λk L g _ _ _ h=>absurd h (hs u ht _).2,λk L g _ _ _ h=>absurd h (hs u ht _).2⟩
def p6(s:AJ)(A:List AF)(pl:BP)(u:AG)(row:Row)(gs:List AT)(st:BG)(k:Nat):BG:=(gs.take k).foldl (kZ s A pl u row) ⟨st.L,st.n+1⟩
theorem Ib(s:AJ)(A:List AF)(pl:BP)(u:AG)(row:Row)(a:List AT)(st:BG)(h:k<a.length):p6 s A pl u row a st (k+1)=kZ s A pl u row (p6 s A pl u row a st k) a[k]:=by unfold p6;rw[List.take_succ_eq_append_getElem h,List.foldl_append,List.foldl_cons,List.foldl_nil]
section
variable (s:AJ) (d:AR) (A:List AF) (hx:Am s d A) (pl:BP) (hup:BM pl) (B:Nat) (hp:CO s pl B) (u:AG) (row:Row) (hrow:BQ row) (W:Nat->List AY->Prop) (hW:BI s A u W) (w:List Sl) (st:BG) (hS:Ai w st.n) (hk:W (st.n+1) st.L) (hn:st.n<=400)
include hx hup hp hrow hW hS hk hn
theorem Ge:∀k,k<=(bF s d A u w).length->W (p6 s A pl u row (bF s d A u w) st k).n (p6 s A pl u row (bF s d A u w) st k).L/\st.n+1+k<=(p6 s A pl u row (bF s d A u w) st k).n/\(p6 s A pl u row (bF s d A u w) st k).n<=401+27487790694400+B+k
 |0,_=>⟨hk,le_refl _,by show st.n+1<=_;omega⟩
 |k+1,h=>by obtain⟨b,e,f⟩:=Ge k om;have a:=p5 s d A hx u hS _ (getElem_mem (show k<(bF s d A u w).length by omega));rw[Ib s A pl u row _ st om];obtain⟨g,i,j⟩:=V3 s d A hx pl hup B hp u row hrow W hW (p6 s A pl u row (bF s d A u w) st k) _ (st.n+1) a.2 a.1 om b;have c:=uP s A pl hup u row (p6 s A pl u row (bF s d A u w) st k) (bF s d A u w)[k];grind
theorem Jv:(bF s d A u w).length<=1073741824:=by
 have i:=Hs s d A u w;obtain⟨e,f⟩:=hx.aj;have l:=hx.hd;have c:=hS.sz;have b:∀gs:List AT,(∀g∈gs,g.O≠[])->gs.length<=Hr gs:=λgs=>by
  induction gs with
  |nil=>intro _;exact zero_le _
  |cons g gs E=>
   intro h;have h3:=E λg a=>h g Ww
   have h4:Hr (g::gs)=aC Sl.size g.O+Hr gs:=rfl;have j:=aJ Sl.au g.O;have k:=List.length_pos_iff.2 (h g Wb);grind
 have h3:=b _ λg a=>(p5 s d A hx u hS g a).1
 omega
end
def Jw(s:AJ)(hs:A2 s)(d:AR)(A:List AF)(hx:Am s d A):∀N:Nat,CO s (oZ s d A N) (N * 70368744177664)
 |0=>⟨λ_ _ _ _ _=>rfl,λu row w st _ _ _ _ hn=>by show st.n<=_;omega⟩
 |N+1=>by
  have E:=Jw s hs d A hx N;refine⟨J2 s hs d A (N+1),λu row w st ht hT hr hS hn=> ?_⟩;have a:=Ge s d A hx _ (qY s d A N) _ E u row hr _ (zE hs A ht) w st hS hT hn _ (le_refl _);have b:=Jv s d A hx _ (qY s d A N) _ E u row hr _ (zE hs A ht) w st hS hT hn;have e:p6 s A (oZ s d A N) u row (bF s d A u w) st (bF s d A u w).length=oZ s d A (N+1) u row w st:=by unfold p6;rw[oZ,take_length];grind
  grind
def PE{f:α->AV}{l:List α}{j:Nat}(h:j<l.length):(l.take j).map f++[f l[j]]=(l.take (j+1)).map f:=WN
mutual
def Nd.cnt:Nd->Nat
 | .mk _ _ _ ks l=>iW l+ks.length+1
def iW:List Nd->Nat
 |[]=>0
 |x::l=>Nd.cnt x+iW l
end
theorem Gf:∀l:List Nd,iW l=aC Nd.cnt l
 |[]=>by simp[iW,aC]
 |v::l=>by rw[iW,aC,Gf l]
theorem Nd.cc(x:Nd):x.cnt=aC Nd.cnt x.l+x.keys.length+1:=by cases x;rw[Nd.cnt,Gf];rfl
def Nd.ci(x:Nd):1<=x.cnt:=by rw[Nd.cc];omega
def KK{x:Nd}(h:k<x.l.length):x.l[k].cnt<x.cnt:=by have:=aN (size:=Nd.cnt) (getElem_mem h);rw[x.cc];omega
theorem Nd.bt(x:Nd):x.l.length<x.cnt:=by have:=aJ Nd.ci x.l;rw[x.cc];omega
def PF{x:Nd}(h:k<x.l.length):x.kl[k]? =some (.ac x.l[k].ak):=by rw[x.ch];simp[h]
def Nd.db(x:Nd):x.kl.length=x.l.length:=by rw[x.ch,length_map]
def Ic{x:Nd}(h:k<x.l.length):x.nl[k]? =some x.l[k].C:=by rw[x.cg];simp[h]
theorem Nd.c2(x:Nd):x.nl.length=x.l.length:=by rw[x.cg,length_map]
def TO(n m:Nat)(l:List Nd):aE n m (l.map Nd.C)=true:=aD n m _ (E2 l)
theorem TP(n m:Nat)(x:Nd):aE n m x.kl=true:=aD n m _ (by rw[x.ch];exact gS _)
theorem Nd.c1(x:Nd):aA x.nl=true:=by rw[x.cg];exact E2 _
def Ri:Ob := .cells [.int .i64 0, .bool false, .int .i64 0, .int .i64 0, .str [], .slice [] .nil, .slice [] .nil, .slice [] .nil, .slice [] .nil]
def Rj:∀(N:Nat) (x:Nd),x.cnt<=N->N<=68719476736->AN prog 29 [.ac x.ak] x.C
 |0,x,h,_=>by have:=x.ci;omega
 |N+1,x,h,i=>by
  have E:=λ(k:Nat) (hk:k<x.l.length)=>Rj N x.l[k] (by have:=KK hk;omega) om
  have c:=x.db
  have g:=x.bt
  refine AI.plain (Nd.K x) (by simp[aA,AV.K,eA]) (cE [.cell 2 105] func29 ?_)
  repeat' first|refine .s1 ?_|(refine .q ?_ ?_<;>intro O)|refine aBE rfl ?_|fail
  refine lC 1 8 true 9 rfl rfl rfl rfl rfl rfl rfl rfl ?_
  refine bK x.l.length (λk=>[(15, .int .i64 k),(14, .int .i64 x.l.length),(13, .slice x.kl .no),(3, .ptr 1 0),(2, .ptr 0 0)])
   (λk=>⟨[Ri, .cells [.int .i64 x.kind, .bool x.must, .int .i64 x.v.kind, .int .i64 x.v.n, .str x.v.s, .slice x.v.lv .no, .slice x.v.mv .no, .slice (x.keys.map AV.str) .no, .slice ((x.l.take k).map Nd.C) (.own 0 9)]],[.len k]⟩) (λ_=>True)
   ⟨rfl,congrArg (AV.int .i64) (by rw[c]),rfl,rfl,rfl,trivial⟩ rfl trivial λk hk _=> ?_
  have d:((x.l.take k).map Nd.C).length=k:=Wl
  by_cases a:k<x.l.length
  ·have e:decide ((k:Int)<(x.l.length:Int))=true:=by simp[a]
   have x1:=PF a
   have O:=E k a
   have b:=PE (f:=Nd.C) a
   generalize x.l[k]=y at *
   repeat' first|refine .s1 ?_|(refine .q ?_ ?_<;>intro O)|refine bW (n:=k) rfl rfl rfl rfl rfl rfl rfl rfl d rfl Wa Wa rfl ?_|fail
   refine⟨a,Z9,by simp[aM,AV.ab,TP], ?_,by rw[<-b];rfl,trivial⟩
   have hb:aE 2 1 ((x.l.take k).map Nd.C++[y.C])=true:=by rw[b];exact TO _ _ _
   simp[-List.map_take,aQ,aL,Ob.ab,Tok.ab,aE,AV.ab,Ri]
   exact hb
  ·have e:decide ((k:Int)<(x.l.length:Int))=false:=by simp;omega
   obtain rfl:k=x.l.length:=om
   rw[take_length]
   refine .go ?_
   refine aI rfl (AC.agg (AA.cons (aG _) (AA.cons (aG _) (AA.cons (aG _) (AA.cons (aG _) (AA.cons (aG _) (AA.cons (aG _) (AA.cons (aG _) (AA.cons (aG _) (AA.cons (AC.no (AA.eq ?_)) (aB _)))))))))))
   rw[x.cg]
def oT(x:Nd):AH:=if x.kind=0 then x.v else if x.kind=1 then (match upL x.l with|some vs => .mk 6 0 [] vs []|none=>bP)
 else if x.kind=2 then (match upP x.keys x.l with|some ms => .mk 7 0 [] [] ms|none=>bP) else bP
theorem V4(x:Nd):upM x=if (oT x).kind=0/\x.must=true then (bP,false) else (oT x,true):=by cases x;rw[upM];rfl
def yJ:List AG->List Nd->List AF
 |_,[]=>[]
 |keys,x::l => .mk (keys.headD []) (upM x).1::yJ keys.tail l
theorem Rk:∀l:List Nd,upL l=if l.all (λx=>(upM x).2)=true then some (l.map λx=>(upM x).1) else none
 |[]=>by rw[upL];rfl
 |x::l=>by
  rw[upL,Rk l,List.all_cons]
  cases (upM x).2<;>cases l.all (λx=>(upM x).2)<;>simp
theorem Rl:∀(a:List AG) (l:List Nd),upP a l=if l.all (λx=>(upM x).2)=true then some (yJ a l) else none
 |_,[]=>by rw[upP];rfl
 |a,x::l=>by
  rw[upP,Rl a.tail l,List.all_cons,yJ]
  cases (upM x).2<;>cases l.all (λx=>(upM x).2)<;>simp
def Id:∀(a:List AG) (l:List Nd) (k:Nat) (h:k<l.length),yJ a (l.take (k+1))=yJ a (l.take k)++[.mk (a.getD k []) (upM l[k]).1]
 |a,x::l,0,h=>by cases a<;>simp[yJ]
 |a,x::l,k+1,h=>by
  have:=Id a.tail l k Wu
  rw[take_succ_cons,take_succ_cons,yJ,yJ,this]
  cases a<;>simp
theorem KL:∀(a:List AG) (l:List Nd),(yJ a l).length=l.length
 |_,[]=>rfl
 |a,x::l=>by rw[yJ,length_cons,KL a.tail l,length_cons]
def KM{p:α->Bool}{l:List α}(h:k<l.length):(l.take (k+1)).all p=((l.take k).all p&&p l[k]):=by rw[List.take_succ_eq_append_getElem h,List.all_append];simp
def Rm{p:α->Bool}{l:List α}(h:k<l.length)(hp:p l[k]=false):l.all p=false:=by rw[List.all_eq_false];exact⟨l[k],getElem_mem h,by simp[hp]⟩
def aDm(x:Nd)(i:Nat)(hk:x.keys.length<=68719476736)(X:i<=68719476736):AN prog 120 [x.C, .int .i64 i] (.str (x.keys.getD i [])):=by
 refine AI.plain rfl Yt (aS [4] func120 ?_);by_cases a:i<x.keys.length
 ·have b:decide ((i:Int)<(x.keys.length:Int))=true:=by simp[a]
  have x1:=aV (f:=AV.str) a;refine .ae ?_;exact aP rfl (AC.eq (by simp[List.getD,a]))
 ·have b:decide ((i:Int)<(x.keys.length:Int))=false:=by simp;omega
  refine .ae ?_;exact aP rfl (AC.eq (by simp[List.getD,show ¬i<x.keys.length from a]))
end Go.Proofs.YtimbiifcnhgcoaaGreatDoor
