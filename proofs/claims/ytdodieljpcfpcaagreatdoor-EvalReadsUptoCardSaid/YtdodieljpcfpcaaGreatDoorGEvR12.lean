/- Joined texts. -/
import Derived.Test.YtdodieljpcfpcaaGreatDoorGEvR10
set_option maxRecDepth 100000
set_option maxHeartbeats 16000000
set_option linter.all false
open List (cons_append drop_eq_getElem_cons getElem_mem length_cons length_map map_append map_cons map_nil pairwise_cons take_length take_succ_cons take_zero)
open Nat (le_refl le_trans zero_le)
open Go Go.Av Go.Proofs.YtdodieljpcfpcaaGreatDoor Go.Proofs.Tryz
variable{F:Type}{l:List Sl}{k b j:Nat}
namespace Go.Proofs.YtdodieljpcfpcaaGreatDoor
open Go Go.Av Go.Proofs.Tryz
attribute [local irreducible] AB AD AN AQ Av.AS AZ
theorem DI(s:AI)(pl:Pl)(tb:AF)(w:List Sl)(v:AH)(t:Ae)(p:Ac)(a:AT):dL s pl tb w v t p a=
  (if v.kind=0 then (if isT t=true then (nC true,a.ag.bad p 9) else (mS false bO,a.ag))
  else if (fZ t).2=true then
   (if v.kind≠6 then (nC (isT t),a.ag.bad p 7)
   else (.mk 1 (isT t) bO [] (cD s pl tb w v.l (b7 t) p 0 a.ag).1,(cD s pl tb w v.l (b7 t) p 0 a.ag).2))
  else if fQ s t.name=false then
   (if (E3 s t.name v).2≠0 then (nC (isT t),a.ag.bad p (E3 s t.name v).2) else (mS (isT t) (E3 s t.name v).1,a.ag))
  else if v.kind≠4 then (nC (isT t),a.ag.bad p 7)
  else w9 s pl w t p (cN a.ag.L ⟨tb,v.s⟩) (a.ag.read ⟨tb,v.s⟩)):=by obtain⟨k,n,str,l,m⟩:=v;rfl
def TC(s:AI)(d:AR)(A:List AG)(tb:AF)(w:List Sl)(v:AH)(t:Ae)(p:Ac)(st:AT)(m:Bool)(hF:st.F.length<=68719476736)(b:v.kind≠6):
  Bs s d A 119 [.ptr 0 0, .an 3 10 1 0 0,t.C,v.C,jR .nilp tb [] ⟨[],0,0⟩ w p] st (knG 0 m) (nC m,st.bad p 7):=by
 have hk:=bnT b;refine gM (nB:=2) (mT:=4) (cK [] func119 ?_) rfl (cM _ _ _ _ _ om) (kA _ _ (aF _ _ _ (d8 _)));have a:∀(x:List Ob) (e:Int),_:=λ(x:List Ob) (e:Int)=>JX s d A rdV lyV (.cells (lG st.L st.R.length)::x) (evT st++[.Y [knG 0 m]]) st.F 3 p e rfl rfl Wc hF
 repeat' first|refine .br ?_|refine .s1 ?_|(refine .q ?_ ?_<;>intro O)|refine dR (a _ _) ?_|fail
 exact⟨_,_,rfl,eP (k:=3) rfl (iQ 3 m _ _ _ _) rfl,rfl,tN st p 7 (.Y [(nC m).aj])⟩
def Mm(s:AI)(d:AR)(A:List AG)(Y:Am s d A)(pl:Pl)(hplk:Aw pl)(hpl:Bp s d A pl)(tb:AF)(w:List Sl)(v:AH)(E:∀k (h:k<v.l.length),Bf s d A pl tb w v.l[k]):Bf s d A pl tb w v:=by
 intro t p st m0 ht h hs hp al hv O;have a2:=Jh s pl hplk tb w v t p st h;have hF:=h.F;have hI:=wIs t om;have j:=Sw t om;have an:=Y.hs;have hC:=zS s t.name om;have e0:evB s d A st=evB s d A st.ag:=rfl;have e1:evT st=evT st.ag:=rfl;unfold Bs;rw[e0,e1];refine gM (nB:=2) (mT:=4) (cK [] func65 ?_) rfl (cM _ _ _ _ _ om) (kA _ _ (aF _ _ _ (d8 _)));rw[DI]at O a2 ⊢;have h':= h.ag.ok;have hr:(eF st.ag.R).length<st.ag.c:=Nat.lt_succ_of_le h.RL;have a1:Ai w st.ag.c:=hs.mono (Nat.le_succ _);have z:p.length<st.ag.c:=Nat.lt_succ_of_le hp;have b:st.ag.F.length<=68719476736:=by show st.F.length<=_;omega
 have g:st.ag.c<=4096:=le_trans a2 O;generalize st.ag=st at *;have y:∀(x:List Ob) (e:Int),_:=λ(x:List Ob) (e:Int)=>JX s d A rdV lyV (.cells (lG st.L st.R.length)::x) (evT st++[.Y [knG 0 (isT t)]]) st.F 3 p e rfl rfl Wc b
 by_cases c0:v.kind=0
 ·have n0:(v.kind==0)=true:=by rw[c0];rfl
  rw[if_pos c0]at O ⊢;unfold evB;by_cases c1:isT t=true
  ·rw[if_pos c1]at O ⊢;rw[c1]at hI;have n:∀(x:List Ob),_:=λ(x:List Ob)=>Vr s d A rdV lyV (.cells (lG st.L st.R.length)::x) (evT st++[.Y [knG 0 true]]) st.F 3 p rfl rfl Wc b
   repeat' first|refine AD.bx (v := .agg [_,_,_,_,_,_,_,_]) ?_|refine .br ?_|refine .s1 ?_|(refine .q ?_ ?_<;>intro O)|refine bZ ?_|refine fY rfl ?_|refine aX (agg:=true) ?_|refine dR (n _) ?_|fail
   exact⟨_,_,rfl,eP (k:=3) rfl (iQ 3 true _ _ _ _) rfl,rfl,tN st p 9 (.Y [(nC true).aj])⟩
  ·rw[if_neg c1]at O ⊢;have ab:isT t=false:=by simpa using c1
   rw[ab]at hI;have n:∀(x:List Ob),_:=λ(x:List Ob)=>Nj s d A rdV lyV (.cells (lG st.L st.R.length)::x) (evT st++[.Y [knG 0 false]]) st.F 3 p rfl
   repeat' first|refine AD.bx (v := .agg [_,_,_,_,_,_,_,_]) ?_|refine .br ?_|refine .s1 ?_|(refine .q ?_ ?_<;>intro O)|refine bZ ?_|refine fY rfl ?_|refine aX (agg:=true) ?_|refine dR (n _) ?_|fail
   exact⟨_,_,rfl,eP (k:=3) rfl (iQ 0 false _ _ _ _) rfl,rfl,rfl⟩
 have n0:=beF c0;rw[if_neg c0]at O ⊢;by_cases i:(fZ t).2=true
 ·rw[if_pos i]at O ⊢;rw[i]at j;have f:aE 2 4 (AV.ptr 0 0::AV.an 3 10 1 0 0::[(b7 t).C,v.C,jR .nilp tb [] ⟨[],0,0⟩ w p])=true:=by have:=aC 2 4 _ (mM (b7 t) v tb [] ⟨[],0,0⟩ w p);rw[aE,aE,this];rfl
  have q1:aQ (evB s d A st).length (evT st++[Tok.Y [knG 0 (isT t)]]).length (evB s d A st)=true:=cM s d A st 4 om;have q2:aL (evB s d A st).length (evT st++[Tok.Y [knG 0 (isT t)]]).length (evT st++[Tok.Y [knG 0 (isT t)]])=true:=kA st (knG 0 (isT t)) rfl;have ae:(fZ t).1=b7 t:=by
   unfold fZ at i ⊢;split
   ·rfl
   ·rename_i hn;rw[if_neg hn]at i;cases i
  rw[ae]at j;have q0:∀r:Nd×AT,(evT st++[Tok.Y [knG 0 (isT t)]]).length<=(evT r.2++[Tok.Y [r.1.aj]]).length:=λr=>le_refl _
  have q3:∀r:Nd×AT,aQ (evB s d A r.2).length (evT r.2++[Tok.Y [r.1.aj]]).length (evB s d A r.2)=true:=λr=>cM s d A r.2 4 om
  have q4:∀r:Nd×AT,aL (evB s d A r.2).length (evT r.2++[Tok.Y [r.1.aj]]).length (evT r.2++[Tok.Y [r.1.aj]])=true:=λr=>kA r.2 _ (aF _ _ _ (d8 _))
  by_cases c6:v.kind=6
  ·rw[if_neg (by simp[c6])]at O ⊢;have af:∀k (hk:k<v.l.length),CH s v.l[k] (b7 t):=λk hk=>hv.imp id λhz=>hz.l (getElem_mem hk)
   have hl:=aCD s d A Y pl hplk tb w v E (b7 t) p st (isT t) ht h' a1 z g af c6 O;unfold Bs at hl;generalize (Nd.mk 1 (isT t) bO [] (cD s pl tb w v.l (b7 t) p 0 st).1,(cD s pl tb w v.l (b7 t) p 0 st).2)=r at *;repeat' first|refine AD.bx (v := .agg [_,_,_,_,_,_,_,_]) ?_|refine .br ?_|refine .s1 ?_|(refine .q ?_ ?_<;>intro O)|refine fY rfl ?_|refine aX (agg:=true) ?_|refine dC (B0:=evB s d A st) (B1:=evB s d A r.2) hl (q0 r) q1 q2 (q3 r) (q4 r) f ?_|fail
   exact⟨_,_,rfl,eU _ _,rfl,rfl⟩
  ·rw[if_pos c6]at O ⊢;have hl:=TC s d A tb w v (b7 t) p st (isT t) b c6;unfold Bs at hl;generalize (nC (isT t),st.bad p 7)=r at *;repeat' first|refine AD.bx (v := .agg [_,_,_,_,_,_,_,_]) ?_|refine .br ?_|refine .s1 ?_|(refine .q ?_ ?_<;>intro O)|refine fY rfl ?_|refine aX (agg:=true) ?_|refine dC (B0:=evB s d A st) (B1:=evB s d A r.2) hl (q0 r) q1 q2 (q3 r) (q4 r) f ?_|fail
   exact⟨_,_,rfl,eU _ _,rfl,rfl⟩
 rw[if_neg i]at O ⊢;have ac:(fZ t).2=false:=X8
 rw[ac]at j;have am:(fZ t).1=R4\/True := .inr trivial;by_cases u:fQ s t.name=false
 ·rw[if_pos u]at O ⊢;rw[u]at hC;obtain⟨z1,z2⟩:=hv.resolve_left (by rw[u];decide);obtain⟨z3,z4⟩:=Ok z2;have hO:=aCn s t.name v om z1 z3 z4;by_cases a:(E3 s t.name v).2=0
  ·rw[if_neg W5]at O ⊢;have n4:((E3 s t.name v).2 != 0)=false:=by rw[a];rfl
   unfold evB;generalize E3 s t.name v=o at *;repeat' first|refine AD.bx (v := .agg [_,_,_,_,_,_,_,_]) ?_|refine .br ?_|refine bH (d:=12) ?_|refine .s1 ?_|(refine .q ?_ ?_<;>intro O)|refine bZ ?_|refine fY rfl ?_|refine fF (hn:=by exact rfl) (hy:=by exact rfl) ?_|refine aX (agg:=true) ?_|fail
   exact⟨_,_,rfl,eP (k:=3) rfl (Je 0 (isT t) o.1 _ _) rfl,rfl,rfl⟩
  ·rw[if_pos a]at O ⊢;have n4:((E3 s t.name v).2 != 0)=true:=by simpa using a
   unfold evB;generalize E3 s t.name v=o at *;have m:∀(x:List Ob) (e:Int),_:=λ(x:List Ob) (e:Int)=>JX s d A rdV lyV (.cells (lG st.L st.R.length)::x) (evT st++[.Y [knG 0 (isT t)], .Y [o.1.C]]) st.F 3 p e rfl rfl Wc b
   repeat' first|refine AD.bx (v := .agg [_,_,_,_,_,_,_,_]) ?_|refine .br ?_|refine bH (d:=12) ?_|refine .s1 ?_|(refine .q ?_ ?_<;>intro O)|refine bZ ?_|refine fY rfl ?_|refine fF (hn:=by exact rfl) (hy:=by exact rfl) ?_|refine aX (agg:=true) ?_|refine dR (m _ _) ?_|fail
   exact⟨_,_,rfl,eP (k:=3) rfl (iQ 3 (isT t) _ _ _ _) rfl,rfl,tN st p o.2 (.Y [(nC (isT t)).aj])⟩
 have ad:fQ s t.name=true:=by simpa using u
 rw[if_neg u]at O ⊢;rw[ad]at hC;by_cases a:v.kind=4;case neg=>
  rw[if_pos a]at O ⊢;have n4:(v.kind != 4)=true:=by simpa using a
  unfold evB;repeat' first|refine AD.bx (v := .agg [_,_,_,_,_,_,_,_]) ?_|refine .br ?_|refine .s1 ?_|(refine .q ?_ ?_<;>intro O)|refine bZ ?_|refine fY rfl ?_|refine aX (agg:=true) ?_|refine dR (y _ _) ?_|fail
  exact⟨_,_,rfl,eP (k:=3) rfl (iQ 3 (isT t) _ _ _ _) rfl,rfl,tN st p 7 (.Y [(nC (isT t)).aj])⟩
 have n4:(v.kind != 4)=false:=WD
 rw[if_neg W5]at O ⊢;have a0:=eRd s d A Y pl hpl tb v.s t w p st h' hr a1 (Nat.le_of_lt z) g O;unfold Bs at a0;generalize w9 s pl w t p (cN st.L ⟨tb,v.s⟩) (st.read ⟨tb,v.s⟩)=r at *;have q0:(evT st++[Tok.Y [knG 0 (isT t)]]).length<=(evT r.2++[Tok.Y [r.1.aj]]).length:=le_refl _;have q1:aQ (evB s d A st).length (evT st++[Tok.Y [knG 0 (isT t)]]).length (evB s d A st)=true:=cM s d A st 4 om;have q2:aL (evB s d A st).length (evT st++[Tok.Y [knG 0 (isT t)]]).length (evT st++[Tok.Y [knG 0 (isT t)]])=true:=kA st (knG 0 (isT t)) rfl;have q3:aQ (evB s d A r.2).length (evT r.2++[Tok.Y [r.1.aj]]).length (evB s d A r.2)=true:=cM s d A r.2 4 om;have q4:aL (evB s d A r.2).length (evT r.2++[Tok.Y [r.1.aj]]).length (evT r.2++[Tok.Y [r.1.aj]])=true:=kA r.2 _ (aF _ _ _ (d8 _));have f:aE 2 4 [jR (.an 3 10 1 0 0) tb v.s t w p, .ab (.ptr 0 0), .ab (.ptr 1 0)]=true:=by simp[jR,aE,AV.aa,aC _ _ _ (dK p),aC _ _ _ (aZ w)]
 repeat' first|refine AD.bx (v := .agg [_,_,_,_,_,_,_,_]) ?_|refine .br ?_|refine .s1 ?_|(refine .q ?_ ?_<;>intro O)|refine bZ ?_|refine fY rfl ?_|refine aX (agg:=true) ?_|refine ES (B0:=evB s d A st) (B1:=evB s d A r.2) rfl rfl a0 rfl rfl q0 q1 q2 q3 q4 f rfl (aD _) ?_|fail
 exact⟨_,_,rfl,eU _ _,rfl,rfl⟩
def Mn(s:AI)(d:AR)(A:List AG)(Y:Am s d A)(pl:Pl)(hplk:Aw pl)(hpl:Bp s d A pl)(tb:AF)(w:List Sl):∀(n:Nat) (v:AH),v.size<=n->Bf s d A pl tb w v
 |0,v,h=>by have:=v.au;omega
 |n+1,v,h=>Mm s d A Y pl hplk hpl tb w v λk hk=>Mn s d A Y pl hplk hpl tb w n v.l[k] (by have:=dI hk;omega)
def U4{B:List Ob}{t0 t1 t2:Tok}{c nx:Nat}{d xs:List AV}{a:AF}{f g h i k l m o:AV}(hk:d.length=c)(p:xs.length=nx)(r:c<=1073741824)(t:nx<=1073741824):
  AQ prog 57 [.an 3 10 1 0 0, .str a] ⟨B,[t0,t1,t2, .Y [.agg [f,g,h,i,k,l,m, .slice d (.own 4 1),o, .slice xs (.own 5 1)]], .len c, .len nx]⟩ (λe σ'=> e = .ret (.an 6 10 1 0 0)/\
   σ'= ⟨B,[t0,t1,t2, .Y [.agg [f,g,h,i,k,l,m, .slice (d++[.str a]) (.own 4 1),o, .slice (xs++[.an 6 10 1 0 0]) (.own 5 1)]], .len (c+1), .len (nx+1), .Y [kn0 false]]⟩):=by
 have X:AQ prog 113 [.an 3 10 1 0 0] ⟨B,[t0,t1,t2, .Y [.agg [f,g,h,i,k,l,m, .slice (d++[.str a]) (.own 4 1),o, .slice xs (.own 5 1)]], .len (c+1), .len nx]⟩ (λe σ'=> e = .ret (.an 6 10 1 0 0)/\
   σ'= ⟨B,[t0,t1,t2, .Y [.agg [f,g,h,i,k,l,m, .slice (d++[.str a]) (.own 4 1),o, .slice (xs++[.an 6 10 1 0 0]) (.own 5 1)]], .len (c+1), .len (nx+1), .Y [kn0 false]]⟩):=
  Vq (j:=3) (b:=5) (n:=nx) rfl rfl p Wc om
 refine cK [4] func57 ?_
 repeat' first|refine fY rfl ?_|refine .s1 ?_|(refine .q ?_ ?_<;>intro O)|refine fF (hn:=by exact rfl) (hy:=by exact rfl) ?_|refine bU (n:=c) hk ?_|refine aX (agg:=true) ?_|refine dR X ?_|fail
 exact⟨rfl,rfl⟩
def knP(m:Bool)(ks:List AF)(xs:List AV):AV := .agg [.int .i64 2, .bool m, .int .i64 0, .int .i64 0, .str [], .slice [] .nil, .slice [] .nil, .slice (ks.map AV.str) (.own 4 1), .slice [] .nil, .slice xs (.own 5 1)]
def Kx(st:AT)(p:Ac)(e:Int)(l:List Tok):Tok.len (st.F.length+1) :: .Y (kO st.R) :: .len (eF st.R).length::l=evT (st.bad p e)++l:=by grind[evT,AT.bad,List.length_append]
def tP{c:Nat}(h:Ai l c):Ai (bM l) c:=by
 have d:∀a b:List Sl,aA Sl.size (a++b)=aA Sl.size a+aA Sl.size b:=λa b=>by
  induction a with
  |nil=>simp[aA]
  |cons x a E=>rw[cons_append,aA,aA,E];omega
 have hz:∀l:List Sl,aA Sl.size (bM l)<=aA Sl.size l:=λl=>by
  induction l with
  |nil=>exact le_refl _
  |cons x l E=>
   have h2:=x.ax;have h3:bM (x::l)=x.O++bM l:=by simp[bM]
   rw[h3,d,aA];omega
 refine⟨le_trans (hz l) h.sz,λy hy=> ?_⟩;obtain⟨x,Y,hy⟩:=List.mem_flatMap.1 hy;have h2:=x.ax;have h3:=aN (size:=Sl.size) hy;exact⟨(x.ok_eq.1 (h.all x Y).1).2.2.2 y hy,by have:=(h.all x Y).2;omega⟩
def tQ(s:AI)(wr within:Bool)(A:List AG)(dfl:AO->VE)(a:List MF):∀ps:List AO,(lA s wr within A dfl a ps).1.length<=ps.length
 |[]=>by rw[lA];exact le_refl _
 |p::ps=>by have E:=tQ s wr within A dfl a ps;rw[lA];grind
theorem Mo:bO.size=6:=rfl
def Ky:bO.ok:=Yu
def F2(n m:Nat)(h:2<m)(st:AT)(l:List Tok)(hl:aL n m l=true):aL n m (evT st++l)=true:=by rw[iE,nG _ _ h,hl];rfl
def TD(s:AI)(d:AR)(A:List AG)(Y:Am s d A)(pl:Pl)(a5:Bool)(dv:AV)(u:AF)(row:Row)(hrow:row.aq.length<=1048576)(f:AF)(x:Sl)(C:List Sl)(l:List Sl)(p:Ac)(st:AT)(m:Bool)(h:List AF)(xs:List Nd)(hF:st.F.length<=4096)(aa:x.ok/\x.size<=1048576)(b1:aA Sl.size (x::C)<=68719476736)(hp:p.length<=4096)
  (b5:h.length<=1048576) (be:xs.length<=1048576)
  (h3:x.name≠bC->(dV s (aK s u x.name).1.params x.args A).2=0->(ofB s u (aK s u x.name).1).1.how=3->a5=false/\dv = .nilfn)
  (Df:x.name≠bC->(dV s (aK s u x.name).1.params x.args A).2=0->(ofB s u (aK s u x.name).1).1.how≠3->
   Bs s d A 65 [.ptr 0 0, .an 3 10 1 0 0,(aK s u x.name).1.t.C,(if (ofB s u (aK s u x.name).1).1.how=2 then (bR (ofB s u (aK s u x.name).1).1.arg (dV s (aK s u x.name).1.params x.args A).1).1 else iG row (ofB s u (aK s u x.name).1).1.col).C,jR .nilp (ofB s u (aK s u x.name).1).1.table [] ⟨[],0,0⟩ (bM (x::C)) (p++[⟨f,0⟩])] st (knG 0 (isT (aK s u x.name).1.t))
    (dL s pl (ofB s u (aK s u x.name).1).1.table (bM (x::C)) (if (ofB s u (aK s u x.name).1).1.how=2 then (bR (ofB s u (aK s u x.name).1).1.arg (dV s (aK s u x.name).1.params x.args A).1).1 else iG row (ofB s u (aK s u x.name).1).1.col) (aK s u x.name).1.t (p++[⟨f,0⟩]) st.ag)):
  AQ prog 28 [.ptr 0 0,plE (.an 3 10 1 0 0) u row l p,AW.C ⟨f,x::C⟩,dv] ⟨evB s d A st,evT st++[.Y [knP m h (xs.map λy => .ab y.aj)], .len h.length, .len xs.length]⟩
   (λe σ'=> e = .ret (.tup [])/\σ'= ⟨evB s d A (cA s d A pl a5 u row ⟨f,x::C⟩ (p++[⟨f,0⟩]) st).2,evT (cA s d A pl a5 u row ⟨f,x::C⟩ (p++[⟨f,0⟩]) st).2++
    [.Y [knP m (h++[f]) ((xs++[(cA s d A pl a5 u row ⟨f,x::C⟩ (p++[⟨f,0⟩]) st).1]).map λy => .ab y.aj)], .len (h.length+1), .len (xs.length+1)]⟩):=by
 have bd:=Y.hs;obtain⟨f1,f2⟩:=j4 Y.so u x.name;have b4:(aK s u x.name).1.size=(aK s u x.name).1.name.length+aA AO.size (aK s u x.name).1.params+(aK s u x.name).1.t.size+aA AM.size (aK s u x.name).1.ao+4:=rfl;have b2:(aK s u x.name).1.t.name.length<=(aK s u x.name).1.t.size:=Xu
 have a1:AQ prog 57 [.an 3 10 1 0 0, .str f] ⟨evB s d A st,evT st++[.Y [knP m h (xs.map λy => .ab y.aj)], .len h.length, .len xs.length]⟩ (λe σ'=> e = .ret (.an 6 10 1 0 0)/\
   σ'= ⟨evB s d A st,evT st++[.Y [.agg [.int .i64 2, .bool m, .int .i64 0, .int .i64 0, .str [], .slice [] .nil, .slice [] .nil, .slice (h.map AV.str++[.str f]) (.own 4 1), .slice [] .nil, .slice ((xs.map λy => .ab y.aj)++[.an 6 10 1 0 0]) (.own 5 1)]], .len (h.length+1), .len (xs.length+1), .Y [kn0 false]]⟩):=
  U4 (length_map _) (length_map _) om om
 have ba:=aAp p ⟨f,0⟩ om;have g:=aCz s d A Y st u f x C aa.2 aa.1;have hI:=wIs (aK s u x.name).1.t om;have hO:=bOf s u (aK s u x.name).1 om om;have hT:=Hv u;have b0:=S3 (x::C) om;have x0:(List.map Sl.C (x::C))[0]? =some x.C:=rfl;have b3:=cM s d A st 3 om;have t3:=nG 2 3 om st;have bc:∀(a:Nd),h.map AV.str++[AV.str f]=(h++[f]).map AV.str:=λa=>Xb
 have bf:∀(a:Nd),(xs.map λy=>AV.ab y.aj)++[AV.ab a.aj]=(xs++[a]).map λy=>AV.ab y.aj:=λa=>Ji xs a
 have ab:∀r:Nd×AT,AQ prog 28 [.ptr 0 0,plE (.an 3 10 1 0 0) u row l p,AW.C ⟨f,x::C⟩,dv] ⟨evB s d A st,evT st++[.Y [knP m h (xs.map λy => .ab y.aj)], .len h.length, .len xs.length]⟩
   (λe am=>∃v a8,e = .ret v/\AJ am v a8 (.tup [])/\a8.B.take 2=evB s d A r.2/\a8.T.take 6=evT r.2++[.Y [knP m (h++[f]) ((xs++[r.1]).map λy => .ab y.aj)], .len (h.length+1), .len (xs.length+1)])-> 
   AQ prog 28 [.ptr 0 0,plE (.an 3 10 1 0 0) u row l p,AW.C ⟨f,x::C⟩,dv] ⟨evB s d A st,evT st++[.Y [knP m h (xs.map λy => .ab y.aj)], .len h.length, .len xs.length]⟩
   (λe σ'=> e = .ret (.tup [])/\σ'= ⟨evB s d A r.2,evT r.2++[.Y [knP m (h++[f]) ((xs++[r.1]).map λy => .ab y.aj)], .len (h.length+1), .len (xs.length+1)]⟩):=λr hr=>by
  have ak:aE 2 6 ((xs++[r.1]).map λy => .ab y.aj)=true:=aC _ _ _ (gX _);have al:aE 2 6 ((h++[f]).map AV.str)=true:=aC _ _ _ (aR _);refine gM (nB:=2) (mT:=6) hr rfl (cM _ _ _ _ _ om) (F2 _ _ om _ _ ?_);simp only[aL,Tok.aa,aE,AV.aa,knP,ak,al];rfl
 refine ab _ (cK [] func28 ?_);have a0:aE 2 3 [.ptr 0 0, .str u,AW.C ⟨f,x::C⟩]=true:=by have:=aF 2 3 _ (AW.K ⟨f,x::C⟩);rw[aE,aE,aE,this];rfl
 unfold cA;dsimp only[List.headD];by_cases c1:x.name=bC
 ·have e1:=beT c1;unfold bC at e1;rw[if_pos c1,if_pos c1]at g;rw[if_pos c1];generalize aK s u x.name=fr at *
  have w:(AV.tup [fr.1.C, .slice (([]:List AG).map AG.C) .no, .int .i64 0]).aa 2 3=true:=aF _ _ _ (by simp[AV.K,aB,Ah.K])
  repeat' first|refine .br ?_|refine .s1 ?_|(refine .q ?_ ?_<;>intro O)|refine dR a1 ?_|refine fY rfl ?_|refine iL (B0:=evB s d A st) (B1:=evB s d A st) (T0:=evT st) (T1:=evT st) (B:=[]) (T:=[_,_,_,_]) rfl g rfl (.inl rfl) (.inr rfl) (le_refl _) (le_refl _) b3 t3 b3 t3 a0 w (aD _) ?_|refine aX (agg:=true) ?_|fail
  refine⟨_,_,rfl,AJ.trans (eP (k:=6) rfl (Je 0 (isT fr.1.t) (jJ u) _ _) rfl) (cU (k:=3) (i:=0) (c:=9) rfl rfl rfl (nD (aY (k:=6) (n:=1) (j:=0))) rfl rfl),rfl, ?_⟩;simp only[knP,map_append,map_cons,map_nil];rfl
 have e1:=beF c1;unfold bC at e1;rw[if_neg c1,if_neg c1]at g;rw[if_neg c1];have w:(AV.tup [(aK s u x.name).1.C, .slice ((dV s (aK s u x.name).1.params x.args A).1.map AG.C) .no, .int .i64 (dV s (aK s u x.name).1.params x.args A).2]).aa 2 3=true:=aF _ _ _ XR;have ag:(dV s (aK s u x.name).1.params x.args A).1.length<=9223372036854775807:=by have h1:=tQ s true false A (lC s) (mkM s true A (cX s) x.args) (aK s u x.name).1.params;have h2:=aJ (size:=AO.size) AO.au (aK s u x.name).1.params;unfold dV;omega
 generalize dV s (aK s u x.name).1.params x.args A=a at *
 generalize aK s u x.name=fr at *
 by_cases c2:a.2=0
 case neg=>
  have n2:=bnT c2;rw[if_pos c2];have z:∀(x:List Ob) (e:Int),_:=λ(x:List Ob) (e:Int)=>JX s d A rdV lyV (.cells (lG st.L st.R.length)::x) (evT st++[.Y [.agg [.int .i64 2, .bool m, .int .i64 0, .int .i64 0, .str [], .slice [] .nil, .slice [] .nil, .slice (h.map AV.str++[.str f]) (.own 4 1), .slice [] .nil, .slice ((xs.map λy => .ab y.aj)++[.an 6 10 1 0 0]) (.own 5 1)]], .len (h.length+1), .len (xs.length+1), .Y [knG 0 (isT fr.1.t)], .len 2]) st.F 6 (p++[⟨f,0⟩]) e rfl rfl Wc om
  repeat' first|refine .br ?_|refine bH (d:=13) ?_|refine bY 13 rfl (aY) ?_|refine .s1 ?_|(refine .q ?_ ?_<;>intro O)|refine dR a1 ?_|refine bZ ?_|refine fY rfl ?_|refine iL (B0:=evB s d A st) (B1:=evB s d A st) (T0:=evT st) (T1:=evT st) (B:=[]) (T:=[_,_,_,_]) rfl g rfl (.inl rfl) (.inr rfl) (le_refl _) (le_refl _) b3 t3 b3 t3 a0 w (aD _) ?_|refine dR (z _ _) ?_|refine aX (agg:=true) ?_|fail
  refine⟨_,_,rfl,AJ.trans (eP (k:=6) rfl (iQ 3 (isT fr.1.t) _ _ _ _) rfl) (cU (k:=3) (i:=0) (c:=9) rfl rfl rfl (nD (aY (k:=6) (n:=1) (j:=0))) rfl rfl),rfl, ?_⟩;simp only[knP,map_append,map_cons,map_nil];exact Kx st.ag (p++[⟨f,0⟩]) a.2 _
 have n2:(a.2 != 0)=false:=by rw[c2];rfl
 rw[if_neg (by simp[c2])];have ah:(ofB s u fr.1).2=false->(ofB s u fr.1).1=sJ:=λhb=>by
  unfold ofB at hb ⊢;split at hb
  ·cases hb
  ·rename_i hn;rw[if_neg hn]
 generalize ofB s u fr.1=bb at *
 obtain⟨b,bk⟩:=bb;dsimp only at hO ah Df h3 ⊢;by_cases c3:b.how=3
 ·have n3:(b.how==2)=false:=by rw[c3];rfl
  have n4:(b.how != 3)=false:=by rw[c3];rfl
  have n5:((14:Int) != 0)=true:=rfl;obtain⟨aj,ai⟩:=h3 c1 c2 c3;subst aj;subst ai;rw[if_pos c3,if_neg Wc];have z:∀(x:List Ob) (e:Int),_:=λ(x:List Ob) (e:Int)=>JX s d A rdV lyV (.cells (lG st.L st.R.length)::x) (evT st++[.Y [.agg [.int .i64 2, .bool m, .int .i64 0, .int .i64 0, .str [], .slice [] .nil, .slice [] .nil, .slice (h.map AV.str++[.str f]) (.own 4 1), .slice [] .nil, .slice ((xs.map λy => .ab y.aj)++[.an 6 10 1 0 0]) (.own 5 1)]], .len (h.length+1), .len (xs.length+1), .Y [knG 0 (isT fr.1.t)], .len 2]) st.F 6 (p++[⟨f,0⟩]) e rfl rfl Wc om
  repeat' first|refine .br ?_|refine bH (d:=13) ?_|refine bY 13 rfl (aY) ?_|refine .s1 ?_|(refine .q ?_ ?_<;>intro O)|refine dR a1 ?_|refine Ml rfl rfl rfl rfl ?_|refine bZ ?_|refine fY rfl ?_|refine iL (B0:=evB s d A st) (B1:=evB s d A st) (T0:=evT st) (T1:=evT st) (B:=[]) (T:=[_,_,_,_]) rfl g rfl (.inl rfl) (.inr rfl) (le_refl _) (le_refl _) b3 t3 b3 t3 a0 w (aD _) ?_|refine dR (z _ _) ?_|refine aX (agg:=true) ?_|fail
  refine⟨_,_,rfl,AJ.trans (eP (k:=6) rfl (iQ 3 (isT fr.1.t) _ _ _ _) rfl) (cU (k:=3) (i:=0) (c:=9) rfl rfl rfl (nD (aY (k:=6) (n:=1) (j:=0))) rfl rfl),rfl, ?_⟩;simp only[knP,map_append,map_cons,map_nil];exact Kx st.ag (p++[⟨f,0⟩]) 14 _
 rw[if_neg c3];have n4:=bnT c3;have Df:=Df c1 c2 c3;unfold Bs at Df;have a6:AQ prog 65 [.ptr 0 0, .an 3 10 1 0 0,fr.1.t.C,(if b.how=2 then (bR b.arg a.1).1 else iG row b.col).C,jR .nilp b.table [] ⟨[],0,0⟩ (bM (x::C)) (p++[⟨f,0⟩])] ⟨evB s d A st,evT st++[.Y [knG 0 (isT fr.1.t)]]⟩ _:=Df;have q1:=cM s d A st 3 om;have q2:=pU 2 3 om st (knG 0 (isT fr.1.t)) rfl;have q3:=cM s d A st 4 om;have q4:=pU 2 4 om st (knG 0 (isT fr.1.t)) rfl;have q7:=aC 2 3 _ (mM fr.1.t (if b.how=2 then (bR b.arg a.1).1 else iG row b.col) b.table [] ⟨[],0,0⟩ (bM (x::C)) (p++[⟨f,0⟩]));have q8:aE 2 4 (AV.ptr 0 0::AV.an 3 10 1 0 0::[fr.1.t.C,(if b.how=2 then (bR b.arg a.1).1 else iG row b.col).C,jR .nilp b.table [] ⟨[],0,0⟩ (bM (x::C)) (p++[⟨f,0⟩])])=true:=by have:=aC 2 4 _ (mM fr.1.t (if b.how=2 then (bR b.arg a.1).1 else iG row b.col) b.table [] ⟨[],0,0⟩ (bM (x::C)) (p++[⟨f,0⟩]));rw[aE,aE,this];rfl
 have ao:=get b.arg a.1 ag;have an:=col row b.col om;generalize dL s pl b.table (bM (x::C)) (if b.how=2 then (bR b.arg a.1).1 else iG row b.col) fr.1.t (p++[⟨f,0⟩]) st.ag=r at *
 have q5:=cM s d A r.2 3 om;have q6:=pU 2 3 om r.2 _ (d8 r.1);by_cases c4:b.how=2
 ·have n3:(b.how==2)=true:=by rw[c4];rfl
  rw[if_pos c4]at a6 q7 q8
  repeat' first|refine .br ?_|refine bH (d:=13) ?_|refine bY 13 rfl (aY) ?_|refine .s1 ?_|(refine .q ?_ ?_<;>intro O)|refine dR a1 ?_|refine bZ ?_|refine fY rfl ?_|refine iL (B0:=evB s d A st) (B1:=evB s d A st) (T0:=evT st) (T1:=evT st) (B:=[]) (T:=[_,_,_,_]) rfl g rfl (.inl rfl) (.inr rfl) (le_refl _) (le_refl _) b3 t3 b3 t3 a0 w (aD _) ?_|refine tO (B0:=evB s d A st) (B1:=evB s d A r.2) (T0:=evT st) (T1:=evT r.2) (x0 := .Y [knG 0 (isT fr.1.t)]) (x1 := .Y [r.1.aj]) (M:=[_,_,_]) (M2:=[_]) (pre:=[.ptr 0 0]) (o:=[_,_,_]) rfl a6 rfl rfl rfl q1 q2 q3 q4 q5 q6 rfl q7 q8 rfl (aD _) ?_|refine aX (agg:=true) ?_|fail
  refine⟨_,_,rfl,cU (k:=3) (i:=0) (c:=9) rfl rfl rfl (nD (aY (k:=6) (n:=1) (j:=0))) rfl rfl,rfl, ?_⟩;simp only[knP,map_append,map_cons,map_nil];rfl
 ·have n3:=beF c4;rw[if_neg c4]at a6 q7 q8
  repeat' first|refine .br ?_|refine bH (d:=13) ?_|refine bY 13 rfl (aY) ?_|refine .s1 ?_|(refine .q ?_ ?_<;>intro O)|refine dR a1 ?_|refine bZ ?_|refine fY rfl ?_|refine iL (B0:=evB s d A st) (B1:=evB s d A st) (T0:=evT st) (T1:=evT st) (B:=[]) (T:=[_,_,_,_]) rfl g rfl (.inl rfl) (.inr rfl) (le_refl _) (le_refl _) b3 t3 b3 t3 a0 w (aD _) ?_|refine tO (B0:=evB s d A st) (B1:=evB s d A r.2) (T0:=evT st) (T1:=evT r.2) (x0 := .Y [knG 0 (isT fr.1.t)]) (x1 := .Y [r.1.aj]) (M:=[_,_,_]) (M2:=[_]) (pre:=[.ptr 0 0]) (o:=[_,_,_]) rfl a6 rfl rfl rfl q1 q2 q3 q4 q5 q6 rfl q7 q8 rfl (aD _) ?_|refine aX (agg:=true) ?_|fail
  refine⟨_,_,rfl,cU (k:=3) (i:=0) (c:=9) rfl rfl rfl (nD (aY (k:=6) (n:=1) (j:=0))) rfl rfl,rfl, ?_⟩;simp only[knP,map_append,map_cons,map_nil];rfl
def VH(s:AI)(d:AR)(A:List AG)(Y:Am s d A)(pl:Pl)(hplk:Aw pl)(hpl:Bp s d A pl)(u:AF)(row:Row)(hrow:BR row)(f:AF)(x:Sl)(C:List Sl)(i:List Sl)(p:Ac)(st:AT)(m:Bool)(j:List AF)(xs:List Nd)(h:At st)(hs:Ai (x::C) st.c)(hp:p.length<=st.c)(a3:st.c<=4096)
  (q:j.length<=1048576) (r:xs.length<=1048576) (g:Bool) (o:AV) (h3:x.name≠bC->(dV s (aK s u x.name).1.params x.args A).2=0->(ofB s u (aK s u x.name).1).1.how=3->g=false/\o = .nilfn) (O:(cA s d A pl g u row ⟨f,x::C⟩ (p++[⟨f,0⟩]) st).2.c<=4096):
  AQ prog 28 [.ptr 0 0,plE (.an 3 10 1 0 0) u row i p,AW.C ⟨f,x::C⟩,o] ⟨evB s d A st,evT st++[.Y [knP m j (xs.map λy => .ab y.aj)], .len j.length, .len xs.length]⟩
   (λe σ'=> e = .ret (.tup [])/\σ'= ⟨evB s d A (cA s d A pl g u row ⟨f,x::C⟩ (p++[⟨f,0⟩]) st).2,evT (cA s d A pl g u row ⟨f,x::C⟩ (p++[⟨f,0⟩]) st).2++
    [.Y [knP m (j++[f]) ((xs++[(cA s d A pl g u row ⟨f,x::C⟩ (p++[⟨f,0⟩]) st).1]).map λy => .ab y.aj)], .len (j.length+1), .len (xs.length+1)]⟩):=by
 have hF:=h.F;have a6:=Y.hs;obtain⟨f1,f2⟩:=j4 Y.so u x.name;have a5:(aK s u x.name).1.size=(aK s u x.name).1.name.length+aA AO.size (aK s u x.name).1.params+(aK s u x.name).1.t.size+aA AM.size (aK s u x.name).1.ao+4:=rfl;have a4:(aK s u x.name).1.t.name.length<=(aK s u x.name).1.t.size:=Xu
 refine TD s d A Y pl g o u row hrow.len f x C i p st m j xs om ⟨(hs.all x Wa).1,(hs.all x Wa).2⟩ (by have:=hs.sz;omega) om q r h3 λc1 c2 v=> ?_
 unfold cA at O;dsimp only[List.headD]at O;rw[if_neg c1,if_neg (by simp[c2]),if_neg v]at O;have l := @GW s u (aK s u x.name).1;have k:(ofB s u (aK s u x.name).1).2=false->(ofB s u (aK s u x.name).1).1=sJ:=λhb=>by
  unfold ofB at hb ⊢;split at hb
  ·cases hb
  ·rename_i hn;rw[if_neg hn]
 generalize dV s (aK s u x.name).1.params x.args A=a at *
 generalize aK s u x.name=fr at *
 generalize ofB s u fr.1=w at *
 obtain⟨b,bk⟩:=w;dsimp only at O l k v ⊢;have hv:CH s (if b.how=2 then (bR b.arg a.1).1 else iG row b.col) fr.1.t:=by
  by_cases n:b.how=2
  ·left;cases hb:bk with
   |true=>exact((l hb).2.2 (.inr n)).1
   |false=>rw[k hb]at n;exact absurd n Wc
  ·right;rw[if_neg n];unfold iG;rcases NM b.col row.aq with e|⟨z,hz,e⟩
   ·rw[e];exact⟨DR (by rw[Mo];decide),Ky⟩
   ·rw[e];exact hrow.bj z hz
 exact Mn s d A Y pl hplk hpl b.table (bM (x::C)) _ (if b.how=2 then (bR b.arg a.1).1 else iG row b.col) (le_refl _) fr.1.t (p++[⟨f,0⟩]) st.ag (isT fr.1.t) om h.ag.ok ((tP hs).mono (Nat.le_succ _)) (by rw[List.length_append];exact Nat.succ_le_succ hp)
  (by have:=Jh s pl hplk b.table (bM (x::C)) (if b.how=2 then (bR b.arg a.1).1 else iG row b.col) fr.1.t (p++[⟨f,0⟩]) st.ag h.ag.ok;omega) hv O
def nS{α:Type}(a:α->AT->Nd×AT):∀(l:List α) (k:Nat) (h:k<l.length) (st:AT),
  bX a (l.take (k+1)) st=((bX a (l.take k) st).1++[(a l[k] (bX a (l.take k) st).2).1],(a l[k] (bX a (l.take k) st).2).2)
 |[],k,h,st=>by simp at h
 |g::l,0,h,st=>by rw[take_succ_cons,take_zero,take_zero];simp only[bX,List.nil_append,List.getElem_cons_zero]
 |g::l,k+1,h,st=>by have E:=nS a l k Wp (a g st).2;rw[take_succ_cons,take_succ_cons,bX,bX];simp_all
def xX{α:Type}(a:α->AT->Nd×AT):∀(l:List α) (st:AT),(bX a l st).1.length=l.length
 |[],_=>rfl
 |g::l,st=>by have:=xX a l (a g st).2;rw[bX,length_cons,length_cons,this]
def zB{α:Type}(a:α->AT->Nd×AT)(hf:∀g st,At st->BD st (a g st).2):∀(l:List α) (k:Nat) (st:AT),At st->(bX a (l.take k) st).2.c<=(bX a l st).2.c
 |[],k,st,h=>by rw[List.take_nil];exact le_refl _
 |g::l,0,st,h=>by rw[take_zero];exact(xA a hf (g::l) st h).c
 |g::l,k+1,st,h=>by exact zB a hf l k _ (hf g st h).ok
def Jj{α:Type}(a:α->AT->Nd×AT)(hf:∀g st,At st->BD st (a g st).2)(ht:∀g st,At st->st.c+1<=(a g st).2.c):∀(l:List α) (st:AT),At st->st.c+l.length<=(bX a l st).2.c
 |[],st,h=>le_refl _
 |g::l,st,h=>by have h1:=ht g st h;have h2:=Jj a hf ht l _ (hf g st h).ok;rw[bX,length_cons];grind
def Kz(s:AI)(d:AR)(A:List AG)(pl:Pl)(hpl:Aw pl)(u:AF)(row:Row)(g:AW)(p:Ac)(st:AT)(h:At st):st.c+1<=(cA s d A pl false u row g p st).2.c:=by
 unfold cA;dsimp only;split
 ·exact le_refl _
 split
 ·exact le_refl _
 split
 ·exact le_refl _
 ·exact(nY s pl hpl _ _ _ _ _ _ h.ag.ok).c
def pV(s:AI)(d:AR)(A:List AG)(Y:Am s d A)(u:AF){w:List Sl}{c:Nat}(hs:Ai w c):∀g∈bG s d A u w,g.O≠[]/\Ai g.O (c+1):=λg a=>by
 obtain⟨h1,h2⟩:=Y.ai;have b:=Y.hd;have ha:=Np s d A u (λx=>x.ok/\x.size<=1048576) (λx Y y hy=>⟨(x.ok_eq.1 Y.1).2.2.2 y hy,by have h2:=x.ax;have h3:=aN (size:=Sl.size) hy;omega⟩)
  (λf hf y hy=>⟨Y.dk f hf y hy,by have h3:=aN (size:=Sl.size) hy;have h4:aA Sl.size f.O<=aA (λf:Af=>aA Sl.size f.O) d.ai:=aN (size:=λf:Af=>aA Sl.size f.O) hf;omega⟩) w hs.all g a
 have ht:=Hf s d A u w;have e:aA Sl.size g.O<=He (bG s d A u w):=aN (size:=λg:AW=>aA Sl.size g.O) a;have:=hs.sz;exact⟨ha.1,om,ha.2⟩
def fmG(s:AI)(d:AR)(A:List AG)(n:Nat)(u:AF)(row:Row)(p:Ac)(g:AW)(st:AT):Nd×AT:=cA s d A (bV s d A n false) false u row g (p++[⟨g.key,0⟩]) st
def NQ(s:AI)(d:AR)(A:List AG)(Y:Am s d A)(n:Nat)(hplk:Aw (bV s d A n false))(hpl:Bp s d A (bV s d A n false))(u:AF)(row:Row)(hrow:BR row)(g:AW)(x:Sl)(C:List Sl)(i:g.O=x::C)(a:List Sl)(p:Ac)(st:AT)(m:Bool)(b:List AF)(xs:List Nd)(h:At st)(hs:Ai g.O st.c)(hp:p.length<=st.c)(f:st.c<=4096)
  (j:b.length<=1048576) (k:xs.length<=1048576) (O:(fmG s d A n u row p g st).2.c<=4096):
  AQ prog 28 [.ptr 0 0,plE (.an 3 10 1 0 0) u row a p,g.C, .nilfn] ⟨evB s d A st,evT st++[.Y [knP m b (xs.map λy => .ab y.aj)], .len b.length, .len xs.length]⟩
   (λe σ'=> e = .ret (.tup [])/\σ'= ⟨evB s d A (fmG s d A n u row p g st).2,evT (fmG s d A n u row p g st).2++[.Y [knP m (b++[g.key]) ((xs++[(fmG s d A n u row p g st).1]).map λy => .ab y.aj)], .len (b.length+1), .len (xs.length+1)]⟩):=by obtain⟨l,o⟩:=g;subst i;exact VH s d A Y (bV s d A n false) hplk hpl u row hrow l x C a p st m b xs h hs hp f j k false .nilfn (λ_ _ _=>⟨rfl,rfl⟩) O
def VI(s:AI)(d:AR)(A:List AG)(Y:Am s d A)(n:Nat)(hpl:Bp s d A (bV s d A n false)):Bp s d A (bV s d A (n+1) false):=by
 intro u row w p m st h hs hrow hp O;have hplk:=nZ s d A n;have a0:=nZ s d A (n+1) u row w p m st h;have aa:st.c<=4096:=le_trans a0.c O;have v:=Jf s d A Y st u row w p hs aa;have ag:=pV s d A Y u hs;have b0:=Jj (fmG s d A n u row p) (λg st h=>lN s d A _ hplk u row g _ st h) (λg st h=>Kz s d A _ hplk u row g _ st h) (bG s d A u w) st.ag h.ag.ok;have ab:=zB (fmG s d A n u row p) (λg st h=>lN s d A _ hplk u row g _ st h) (bG s d A u w);have ad:=nS (fmG s d A n u row p) (bG s d A u w);have ac:=λl st h=>xA (fmG s d A n u row p) (λg st h=>lN s d A _ hplk u row g _ st h) l st h
 have t:=λl=>xX (fmG s d A n u row p) l
 have a9:bV s d A (n+1) false u row w p m st=(.mk 2 m bO ((bG s d A u w).map AW.key) (bX (fmG s d A n u row p) (bG s d A u w) st.ag).1,(bX (fmG s d A n u row p) (bG s d A u w) st.ag).2):=rfl;rw[a9]at O ⊢;dsimp only at O;have e0:evB s d A st=evB s d A st.ag:=rfl;have e1:evT st=evT st.ag:=rfl;have a6:=h.ag.ok;have ap:∀g∈bG s d A u w,g.O≠[]/\Ai g.O st.ag.c:=ag;have an:p.length<=st.ag.c:=Nat.le_succ_of_le hp;have b:=λ(g:AW) (x:Sl) (C:List Sl) (q:AT) (ks:List AF) (xs:List Nd) (f:g.O=x::C)=>NQ s d A Y n hplk hpl u row hrow g x C f w p q m ks xs
 rw[e0,e1]at v;unfold Bs;rw[e0,e1];generalize st.ag=st at *
 generalize bG s d A u w=a at *
 refine gM (nB:=2) (mT:=4) (cK [] func24 ?_) rfl (cM _ _ _ _ _ om) (kA _ _ (aF _ _ _ (d8 _)));have b3:=cM s d A st 3 om;have t3:=nG 2 3 om st;have af:aE 2 3 [.ptr 0 0,plE .undef u row w p]=true:=Zu
 have ao:AV.aa 2 3 (.slice (a.map AW.C) .no)=true:=aF _ _ _ WM;have ar:AA [.ptr 0 0,plE (.an 3 10 1 0 0) u row w p] [.ptr 0 0,plE .undef u row w p]:=AA.cons (aG _) (AA.cons (AC.agg (AA.cons (Cc _) (aD _))) (aD _))
 repeat' first|refine .br ?_|refine .s1 ?_|(refine .q ?_ ?_<;>intro O)|refine iL (B0:=evB s d A st) (B1:=evB s d A st) (T0:=evT st) (T1:=evT st) (B:=[]) (T:=[_]) rfl v rfl (.inl rfl) (.inr rfl) (le_refl _) (le_refl _) b3 t3 b3 t3 af ao ar ?_|fail
 refine bY 10 rfl (cU (k:=3) (i:=0) (c:=7) rfl rfl rfl (lF (z:=1) rfl rfl rfl) rfl rfl) ?_;refine bY 10 rfl (cU (k:=3) (i:=0) (c:=9) rfl rfl rfl (lF (z:=1) rfl rfl rfl) rfl rfl) ?_;have b2:a.length<=4096:=om
 refine bK a.length (λk=>[(10, .int .i64 k),(9, .int .i64 a.length),(8, .slice (a.map AW.C) .no),(3, .ab (plE (.an 3 10 1 0 0) u row w p)),(0, .ptr 0 0)]) (λk=>⟨evB s d A (bX (fmG s d A n u row p) (a.take k) st).2,evT (bX (fmG s d A n u row p) (a.take k) st).2++[.Y [knP m ((a.take k).map AW.key) ((bX (fmG s d A n u row p) (a.take k) st).1.map λy => .ab y.aj)], .len k, .len k]⟩) (λk=>True) ⟨rfl,congrArg (AV.int .i64) Wa,rfl,rfl,rfl,trivial⟩ λk b1 _=> ?_
 by_cases h1:k<a.length
 ·have d1:=ltT h1;have x1:(a.map AW.C)[k]? =some a[k].C:=by simp[h1]
  have a7:=ad k h1 st;have a3:=ab (k+1) st a6;have e:=ac (a.take k) st a6;have al:=t (a.take k) st;have a1:(a.take k).length=k:=Wh
  have a4:BD _ _:=lN s d A (bV s d A n false) hplk u row a[k] (p++[⟨a[k].key,0⟩]) (bX (fmG s d A n u row p) (a.take k) st).2 e.ok;obtain⟨am,aq⟩:=ap a[k] (getElem_mem h1);obtain⟨x,C,f⟩:=List.exists_cons_of_ne_nil am;have aj:(a.take k).map AW.key++[a[k].key]=(a.take (k+1)).map AW.key:=Wt
  rw[a7]at a3;have a5:(fmG s d A n u row p a[k] (bX (fmG s d A n u row p) (a.take k) st).2).2.c<=4096:=le_trans a3 O;have o:=b a[k] x C (bX (fmG s d A n u row p) (a.take k) st).2 ((a.take k).map AW.key) (bX (fmG s d A n u row p) (a.take k) st).1 f e.ok (aq.mono e.c) (le_trans an e.c) (le_trans a4.c a5) WR om a5;generalize bX (fmG s d A n u row p) (a.take k) st=q at *
  generalize fmG s d A n u row p a[k] q.2=r at *
  rw[length_map,a1,al,a1]at o;have ah:∀l:List Nd,aE 2 6 (l.map λy => .ab y.aj)=true:=λl=>aC _ _ _ (gX _)
  have ai:∀l:List AF,aE 2 6 (l.map AV.str)=true:=λl=>aC _ _ _ (aR _)
  have a2:∀(st:AT) (ks:List AF) (xs:List Nd) (j:Nat),aL 2 6 (evT st++[.Y [knP m ks (xs.map λy => .ab y.aj)], .len j, .len j])=true:=λst ks xs j=>F2 _ _ om _ _ (by simp only[aL,Tok.aa,aE,AV.aa,knP,ah,ai];rfl)
  have q1:=cM s d A q.2 6 om;have q2:=a2 q.2 ((a.take k).map AW.key) q.1 k;have q3:=cM s d A r.2 6 om;have q4:=a2 r.2 ((a.take k).map AW.key++[a[k].key]) (q.1++[r.1]) (k+1);have q0:(evT q.2++[Tok.Y [knP m ((a.take k).map AW.key) (q.1.map λy => .ab y.aj)], .len k, .len k]).length<=(evT r.2++[Tok.Y [knP m ((a.take k).map AW.key++[a[k].key]) ((q.1++[r.1]).map λy => .ab y.aj)], .len (k+1), .len (k+1)]).length:=le_refl _;have ak:aE 2 6 [.ptr 0 0,plE (.an 3 10 1 0 0) u row w p,a[k].C, .nilfn]=true:=by have:=aF 2 6 _ (AW.K a[k]);simp[plE,aE,AV.aa,dE,aC _ _ _ (dK p),this]
  repeat' first|refine .br ?_|refine .s1 ?_|(refine .q ?_ ?_<;>intro O)|refine dC (B0:=evB s d A q.2) (B1:=evB s d A r.2) o q0 q1 q2 q3 q4 ak ?_|fail
  refine⟨h1,Z0, ?_, ?_, ?_,trivial⟩
  ·show aM 2 6 _=true;have ae:aE 2 6 (a.map AW.C)=true:=aC _ _ _ (cQ _);simp[aM,AV.aa,ae,plE,aE,dE,aC _ _ _ (dK p)]
  ·show (aQ 2 6 (evB s d A r.2)&&aL 2 6 (evT r.2++[.Y [knP m ((a.take k).map AW.key++[a[k].key]) ((q.1++[r.1]).map λy => .ab y.aj)], .len (k+1), .len (k+1)]))=true;rw[q3,q4];rfl
  ·show (⟨evB s d A r.2,evT r.2++[.Y [knP m ((a.take k).map AW.key++[a[k].key]) ((q.1++[r.1]).map λy => .ab y.aj)], .len (k+1), .len (k+1)]⟩:St)=⟨evB s d A (bX (fmG s d A n u row p) (a.take (k+1)) st).2,evT (bX (fmG s d A n u row p) (a.take (k+1)) st).2++[.Y [knP m ((a.take (k+1)).map AW.key) ((bX (fmG s d A n u row p) (a.take (k+1)) st).1.map λy => .ab y.aj)], .len (k+1), .len (k+1)]⟩;rw[a7,aj]
 ·have d1:=ltF h1;obtain rfl:k=a.length:=om
  rw[take_length];generalize bX (fmG s d A n u row p) a st=q at *
  refine .go ?_;refine⟨_,_,rfl,eP (k:=3) (y:=(Nd.mk 2 m bO (a.map AW.key) q.1).aj) rfl ?_ rfl,rfl,rfl⟩;exact AC.agg (AA.cons (aG _) (AA.cons (aG _) (AA.cons (aG _) (AA.cons (aG _) (AA.cons (aG _) (AA.cons (AC.no (AA.eq (sC _ _ _ _).symm)) (AA.cons (AC.no (AA.eq (wQ _ _ _ _).symm)) (AA.cons (AC.no (aD _)) (AA.cons (aG _)
   (AA.cons (AC.no (AA.eq Yr)) (aD _)))))))))))
def Jk(s:AI)(d:AR)(A:List AG)(Y:Am s d A):∀n:Nat,Bp s d A (bV s d A n false)
 |0=>λu row w p m st h hs hr hp O=>by have:(bV s d A 0 false u row w p m st).2.c=st.c+1000000000:=rfl;omega
 |n+1=>VI s d A Y n (Jk s d A Y n)
def F3(s:AI)(u name:AF):aA AO.size (aK s u name).1.params<=s.size:=by
 unfold aK;cases hf:iW s u name with
 |none=>exact zero_le _
 |some f=>
  unfold iW at hf;split at hf
  ·cases hf;exact zero_le _
  ·split at hf
   ·have b:=List.mem_of_find?_eq_some hf;unfold bN dQ at b;split at b
    ·rename_i c a;split at a
     ·cases a;cases b
     ·have h1:=lP (List.mem_of_find?_eq_some a);have h2:f.size<=aA Ah.size c.fields:=aN (size:=Ah.size) b;have h3:aA Ah.size c.fields<=c.size:=by unfold Ag.size;omega
      have h4:f.size=f.name.length+aA AO.size f.params+f.t.size+aA AM.size f.ao+4:=rfl;dsimp only;omega
    ·cases b
   ·cases hf
def VJ(s:AI)(u:AF)(f:Ah):(ofB s u f).1.how=0\/(ofB s u f).1.how=1\/(ofB s u f).1.how=2\/(ofB s u f).1.how=3:=by
 cases h:(ofB s u f).2 with
 |true=>obtain⟨a,b,_⟩:=Ff h;rw[b];exact(GV a).1
 |false=>
  left;unfold ofB at h ⊢;split at h
  ·cases h
  ·rename_i hn;rw[if_neg hn];rfl
def tR{v:AH}(h:v.size<=68719476736)(a:v.ok):Ad v:=⟨DR h,a⟩
theorem Am.b2{s:AI}{d:AR}{A:List AG}(Y:Am s d A):∀e∈s.ah,e.params.length<=68719476736/\∀p∈e.params,Bj p:=λe he=>by
 have h1:=lP he;have h2:=Y.hs;have h3:=aJ AO.au e.params;have h4:aA AO.size e.params<=e.size:=WA
 refine⟨om,λp hp=> ?_⟩;have a:=aN (size:=AO.size) hp;have b:=p.lens;exact⟨om,tR om ((Y.so e he).2 p hp)⟩
def Co{s:AI}{d:AR}{A:List AG}(Y:Am s d A)(u:AF)(x:Sl)(h:x.ok)(hz:x.size<=1048576):
  (dV s (aK s u x.name).1.params x.args A).1.length<=1048640/\∀m∈(dV s (aK s u x.name).1.params x.args A).1,m.name.length<=68719476736/\Ad m.v:=by
 obtain⟨j,c⟩:=j4 Y.so u x.name;have h2:=Y.hs;have h3:=aJ AO.au (aK s u x.name).1.params;have i:=x.ax;have g:(aK s u x.name).1.size=(aK s u x.name).1.name.length+aA AO.size (aK s u x.name).1.params+(aK s u x.name).1.t.size+aA AM.size (aK s u x.name).1.ao+4:=rfl;obtain⟨a,b⟩:=Pp s Y.b2 (aK s u x.name).1.params (λp hp=>by
  have e:=aN (size:=AO.size) hp;have f:=p.lens;exact⟨om,tR om (c p hp)⟩) x.args A (λy hy=>by
  have e:=aN (size:=AG.size) hy;have f:y.size=y.name.length+2+y.v.size:=rfl;exact tR om ((x.ok_eq.1 h).2.1 y hy)) Y.et
 grind
abbrev hdS(g:AW):Sl:=g.O.headD sl0
abbrev KA(s:AI)(u:AF)(g:AW):BQ:=(ofB s u (aK s u (hdS g).name).1).1
abbrev F4(s:AI)(A:List AG)(u:AF)(g:AW):List AG×Int:=dV s (aK s u (hdS g).name).1.params (hdS g).args A
abbrev Ps(s:AI)(A:List AG)(u:AF)(g:AW):BH:=oZ (aK s u (hdS g).name).1 (KA s u g) (F4 s A u g).1
structure BI(s:AI)(A:List AG)(u:AF)(W:Nat->List AY->Prop):Prop where
 bq:∀k L,W k L->BT L
 mono:∀k m L,W k L->k<=m->W m L
 calm:∀name,Ap s (aK s u name).1.t.name
 fits:∀k L (g:AW),W k L->(hdS g).ok->(hdS g).size<=1048576->(KA s u g).how=3->k<400->∃B,BM B L/\B+(F4 s A u g).1.length+1<=1048576
 bw:∀k L (g:AW),W k L->(hdS g).ok->(hdS g).size<=1048576->(KA s u g).how=3->k<400->W (k+2) (gI L (Ps s A u g)).1
section
variable (s:AI) (d:AR) (A:List AG) (Y:Am s d A) (pl:BO) (hup:BN pl) (B:Nat) (hp:CR s pl B) (u:AF) (row:Row) (hrow:BR row) (W:Nat->List AY->Prop) (hW:BI s A u W)
include Y hup hp hrow hW
theorem VK(a:BG)(g:AW)(k:Nat)(hS:Ai g.O k)(o:g.O≠[])(h0:k<=a.n)(hk:W a.n a.L):
  W (lE s A pl u row a g).n (lE s A pl u row a g).L/\(400<=a.n->(lE s A pl u row a g).n=a.n+1)/\(a.n<400->(lE s A pl u row a g).n<=401+27487790694400+B):=by
 obtain⟨x,C,j⟩:=List.exists_cons_of_ne_nil o;have d:hdS g=x:=by unfold hdS;rw[j];rfl
 have e:=hS.all x (by rw[j];simp);obtain⟨w,i⟩:=Co Y u x e.1 e.2;have hb:=tP hS;have hT:=hW.bq _ _ hk;have b:=uO s A pl hup u row a g;unfold lE at b ⊢;rw[show g.O.headD sl0=x from d]at b ⊢;have hr:=hW.calm x.name;by_cases p:(dV s (aK s u x.name).1.params x.args A).2≠0\/400<a.n+1
 ·rw[if_pos p]at b ⊢;exact⟨hW.mono _ _ _ hk (Nat.le_succ _),λ_=>rfl,λh=>Wl⟩
 rw[if_neg p]at b ⊢;have q:a.n<400:=om
 refine⟨?_,λh=>om,λ_=> ?_⟩
 ·by_cases f:(ofB s u (aK s u x.name).1).1.how=3
  ·rw[if_pos f]at b ⊢;have:=hW.bw a.n a.L g hk (by rw[d];exact e.1) (by rw[d];exact e.2) (by unfold KA;rw[d];exact f) q;unfold Ps KA F4 at this;rw[d]at this;generalize oZ (aK s u x.name).1 (ofB s u (aK s u x.name).1).1 (dV s (aK s u x.name).1.params x.args A).1=c at *;rw[uP s pl hp.same _ _ _ _ ⟨(gI a.L c).1,a.n+1⟩ hr];exact hW.mono _ _ _ this (by have:=yD s pl hup (ofB s u (aK s u x.name).1).1.table (bM g.O) (gI a.L c).2.1 (aK s u x.name).1.t ⟨(gI a.L c).1,a.n+1⟩;dsimp only at this;omega)
  ·rw[if_neg f]at b ⊢;rw[uP s pl hp.same _ _ _ _ ⟨a.L,a.n+1⟩ hr];exact hW.mono _ _ _ hk om
 ·have fin:∀(tb:AF) (v:AH) (L:List AY),rH v->BT L->(oJ s pl tb (bM g.O) v (aK s u x.name).1.t ⟨L,a.n+1⟩).n<=401+27487790694400+B:=λtb v L hv r=>by obtain⟨y,z⟩:=QU s pl hup B hp tb (bM g.O) k hb v (aK s u x.name).1.t ⟨L,a.n+1⟩ hr hv r (Nat.le_succ_of_le h0);grind
  split
  ·rename_i f;have h3:=hW.bw a.n a.L g hk (by rw[d];exact e.1) (by rw[d];exact e.2) (by unfold KA;rw[d];exact f) q;unfold Ps KA F4 at h3;rw[d]at h3;exact fin _ _ _ (E5 (B:=1048576) (c:=oZ (aK s u x.name).1 (ofB s u (aK s u x.name).1).1 (dV s (aK s u x.name).1.params x.args A).1) ⟨hT.a7,hT.bj⟩ (λm l=>(i m l).2)).1.1 (hW.bq _ _ h3)
  ·refine fin _ _ _ ?_ hT;split
   ·exact(pT λm l=>(i m l).2).1
   ·exact(pT hrow.bj).1
end
def zC{s:AI}(hs:A2 s)(A:List AG){u:AF}(ht:DX s u):BI s A u (λ_ L=>BT L):=
 ⟨λ_ _ h=>h,λ_ _ _ h _=>h,λname=>(hs u ht name).1,λk L g _ _ _ h=>absurd h (hs u ht _).2,λk L g _ _ _ h=>absurd h (hs u ht _).2⟩
def pW(s:AI)(A:List AG)(pl:BO)(u:AF)(row:Row)(gs:List AW)(st:BG)(k:Nat):BG:=(gs.take k).foldl (lE s A pl u row) ⟨st.L,st.n+1⟩
theorem HZ(s:AI)(A:List AG)(pl:BO)(u:AF)(row:Row)(a:List AW)(st:BG)(h:k<a.length):pW s A pl u row a st (k+1)=lE s A pl u row (pW s A pl u row a st k) a[k]:=by unfold pW;rw[List.take_succ_eq_append_getElem h,List.foldl_append,List.foldl_cons,List.foldl_nil]
section
variable (s:AI) (d:AR) (A:List AG) (Y:Am s d A) (pl:BO) (hup:BN pl) (B:Nat) (hp:CR s pl B) (u:AF) (row:Row) (hrow:BR row) (W:Nat->List AY->Prop) (hW:BI s A u W) (w:List Sl) (st:BG) (hS:Ai w st.n) (hk:W (st.n+1) st.L) (hn:st.n<=400)
include Y hup hp hrow hW hS hk hn
theorem F5:∀k,k<=(bG s d A u w).length->W (pW s A pl u row (bG s d A u w) st k).n (pW s A pl u row (bG s d A u w) st k).L/\st.n+1+k<=(pW s A pl u row (bG s d A u w) st k).n/\(pW s A pl u row (bG s d A u w) st k).n<=401+27487790694400+B+k
 |0,_=>⟨hk,le_refl _,by show st.n+1<=_;omega⟩
 |k+1,h=>by obtain⟨b,e,f⟩:=F5 k om;have a:=pV s d A Y u hS _ (getElem_mem (show k<(bG s d A u w).length by omega));rw[HZ s A pl u row _ st om];obtain⟨g,i,j⟩:=VK s d A Y pl hup B hp u row hrow W hW (pW s A pl u row (bG s d A u w) st k) _ (st.n+1) a.2 a.1 om b;have c:=uO s A pl hup u row (pW s A pl u row (bG s d A u w) st k) (bG s d A u w)[k];grind
theorem Jl:(bG s d A u w).length<=1073741824:=by
 have h1:=Hf s d A u w;obtain⟨c,e⟩:=Y.ai;have j:=Y.hd;have b:=hS.sz;have h2:∀gs:List AW,(∀g∈gs,g.O≠[])->gs.length<=He gs:=λgs=>by
  induction gs with
  |nil=>intro _;exact zero_le _
  |cons g gs E=>
   intro h;have h3:=E λg a=>h g W5
   have h4:He (g::gs)=aA Sl.size g.O+He gs:=rfl;have f:=aJ Sl.au g.O;have i:=List.length_pos_iff.2 (h g Wa);grind
 have h3:=h2 _ λg a=>(pV s d A Y u hS g a).1
 omega
end
def Jm(s:AI)(hs:A2 s)(d:AR)(A:List AG)(Y:Am s d A):∀N:Nat,CR s (oW s d A N) (N * 70368744177664)
 |0=>⟨λ_ _ _ _ _=>rfl,λu row w st _ _ _ _ hn=>by show st.n<=_;omega⟩
 |N+1=>by
  have E:=Jm s hs d A Y N;refine⟨JU s hs d A (N+1),λu row w st ht hT hr hS hn=> ?_⟩;have h1:=F5 s d A Y _ (rA s d A N) _ E u row hr _ (zC hs A ht) w st hS hT hn _ (le_refl _);have h2:=Jl s d A Y _ (rA s d A N) _ E u row hr _ (zC hs A ht) w st hS hT hn;have e:pW s A (oW s d A N) u row (bG s d A u w) st (bG s d A u w).length=oW s d A (N+1) u row w st:=by unfold pW;rw[oW,take_length];grind
  grind
def Pt{f:F->AV}{l:List F}{j:Nat}(h:j<l.length):(l.take j).map f++[f l[j]]=(l.take (j+1)).map f:=Xf
mutual
def Nd.cnt:Nd->Nat
 | .mk _ _ _ ks l=>jB l+ks.length+1
def jB:List Nd->Nat
 |[]=>0
 |x::l=>Nd.cnt x+jB l
end
theorem F6:∀l:List Nd,jB l=aA Nd.cnt l
 |[]=>by simp[jB,aA]
 |v::l=>by rw[jB,aA,F6 l]
theorem Nd.b9(x:Nd):x.cnt=aA Nd.cnt x.l+x.keys.length+1:=by cases x;rw[Nd.cnt,F6];rfl
def Nd.cd(x:Nd):1<=x.cnt:=by rw[Nd.b9];omega
def KB{x:Nd}(h:k<x.l.length):x.l[k].cnt<x.cnt:=by have:=aN (size:=Nd.cnt) (getElem_mem h);rw[x.b9];omega
theorem Nd.bu(x:Nd):x.l.length<x.cnt:=by have:=aJ Nd.cd x.l;rw[x.b9];omega
def Pu{x:Nd}(h:k<x.l.length):x.kl[k]? =some (.ab x.l[k].aj):=by rw[x.ca];simp[h]
def Nd.db(x:Nd):x.kl.length=x.l.length:=by rw[x.ca,length_map]
def H0{x:Nd}(h:k<x.l.length):x.nl[k]? =some x.l[k].C:=by rw[x.cb];simp[h]
def Nd.cr(x:Nd):x.nl.length=x.l.length:=by rw[x.cb,length_map]
def TE(n m:Nat)(l:List Nd):aE n m (l.map Nd.C)=true:=aC n m _ (ET l)
theorem TF(n m:Nat)(x:Nd):aE n m x.kl=true:=aC n m _ (by rw[x.ca];exact gX _)
theorem Nd.dc(x:Nd):aB x.nl=true:=by rw[x.cb];exact ET _
def Q3:Ob := .cells [.int .i64 0, .bool false, .int .i64 0, .int .i64 0, .str [], .slice [] .nil, .slice [] .nil, .slice [] .nil, .slice [] .nil]
def Q4:∀(N:Nat) (x:Nd),x.cnt<=N->N<=68719476736->AN prog 31 [.ab x.aj] x.C
 |0,x,h,_=>by have:=x.cd;omega
 |N+1,x,h,e=>by
  have E:=λ(k:Nat) (hk:k<x.l.length)=>Q4 N x.l[k] (by have:=KB hk;omega) om
  have b:=x.db
  have hlt:=x.bu
  refine pER [.cell 2 116] func31 (O:=Nd.K x) (ha:=by simp[aB,AV.K,d8]) ?_
  repeat' first|refine .s1 ?_|(refine .q ?_ ?_<;>intro O)|refine aAo rfl ?_|fail
  refine lI 1 8 true 9 ?_
  refine bK x.l.length (λk=>[(15, .int .i64 k),(14, .int .i64 x.l.length),(13, .slice x.kl .no),(3, .ptr 1 0),(2, .ptr 0 0)]) (λk=>⟨[Q3, .cells [.int .i64 x.kind, .bool x.must, .int .i64 x.v.kind, .int .i64 x.v.n, .str x.v.s, .slice x.v.lv .no, .slice x.v.mv .no, .slice (x.keys.map AV.str) .no, .slice ((x.l.take k).map Nd.C) (.own 0 9)]],[.len k]⟩) (λ_=>True) ⟨rfl,congrArg (AV.int .i64) (by rw[b]),rfl,rfl,rfl,trivial⟩ λk hk _=> ?_
  have c:((x.l.take k).map Nd.C).length=k:=Wh
  by_cases h1:k<x.l.length
  ·have d:=ltT h1
   have x1:=Pu h1
   have O:=E k h1
   have a:=Pt (f:=Nd.C) h1
   generalize x.l[k]=y at *
   repeat' first|refine .s1 ?_|(refine .q ?_ ?_<;>intro O)|refine bU (n:=k) c ?_|fail
   refine⟨h1,Z0,by simp[aM,AV.aa,TF], ?_,by rw[<-a];rfl,trivial⟩
   have hb:aE 2 1 ((x.l.take k).map Nd.C++[y.C])=true:=by rw[a];exact TE _ _ _
   simp[-List.map_take,aQ,aL,Ob.aa,Tok.aa,aE,AV.aa,Q3]
   exact hb
  ·have d:=ltF h1
   obtain rfl:k=x.l.length:=om
   rw[take_length]
   refine .go ?_
   refine aI rfl (AC.agg (AA.cons (aG _) (AA.cons (aG _) (AA.cons (aG _) (AA.cons (aG _) (AA.cons (aG _) (AA.cons (aG _) (AA.cons (aG _) (AA.cons (aG _) (AA.cons (AC.no (AA.eq ?_)) (aD _)))))))))))
   rw[x.cb]
def oQ(x:Nd):AH:=if x.kind=0 then x.v else if x.kind=1 then (match upL x.l with|some vs => .mk 6 0 [] vs []|none=>bO)
 else if x.kind=2 then (match upP x.keys x.l with|some ms => .mk 7 0 [] [] ms|none=>bO) else bO
theorem VL(x:Nd):upM x=if (oQ x).kind=0/\x.must=true then (bO,false) else (oQ x,true):=by cases x;rw[upM];rfl
def yL:List AF->List Nd->List AG
 |_,[]=>[]
 |keys,x::l => .mk (keys.headD []) (upM x).1::yL keys.tail l
theorem Q5:∀l:List Nd,upL l=if l.all (λx=>(upM x).2)=true then some (l.map λx=>(upM x).1) else none
 |[]=>by rw[upL];rfl
 |x::l=>by
  rw[upL,Q5 l,List.all_cons]
  cases (upM x).2<;>cases l.all (λx=>(upM x).2)<;>simp
theorem Q6:∀(a:List AF) (l:List Nd),upP a l=if l.all (λx=>(upM x).2)=true then some (yL a l) else none
 |_,[]=>by rw[upP];rfl
 |a,x::l=>by
  rw[upP,Q6 a.tail l,List.all_cons,yL]
  cases (upM x).2<;>cases l.all (λx=>(upM x).2)<;>simp
def H1:∀(a:List AF) (l:List Nd) (k:Nat) (h:k<l.length),yL a (l.take (k+1))=yL a (l.take k)++[.mk (a.getD k []) (upM l[k]).1]
 |a,x::l,0,h=>by cases a<;>simp[yL]
 |a,x::l,k+1,h=>by
  have:=H1 a.tail l k Wp
  rw[take_succ_cons,take_succ_cons,yL,yL,this]
  cases a<;>simp
theorem KC:∀(a:List AF) (l:List Nd),(yL a l).length=l.length
 |_,[]=>rfl
 |a,x::l=>by rw[yL,length_cons,KC a.tail l,length_cons]
def KD{p:F->Bool}{l:List F}(h:k<l.length):(l.take (k+1)).all p=((l.take k).all p&&p l[k]):=by rw[List.take_succ_eq_append_getElem h,List.all_append];simp
def Q7{p:F->Bool}{l:List F}(h:k<l.length)(hp:p l[k]=false):l.all p=false:=by rw[List.all_eq_false];exact⟨l[k],getElem_mem h,by simp[hp]⟩
def aD5(x:Nd)(i:Nat)(hk:x.keys.length<=68719476736)(X:i<=68719476736):AN prog 123 [x.C, .int .i64 i] (.str (x.keys.getD i [])):=by
 refine pEn 4 func123 (ha:=by simp[aB,AV.K,Nd.K]) ?_;by_cases h1:i<x.keys.length
 ·have a:=ltT h1;have x1:=aU (f:=AV.str) h1;refine .ac ?_;exact aP rfl (AC.eq (by simp[List.getD,h1]))
 ·have a:=ltF h1;refine .ac ?_;exact aP rfl (AC.eq (by simp[List.getD,show ¬i<x.keys.length from h1]))
def Q8{l:List Nd}(h:k<l.length):((l.take k).map λy=>(upM y).1.C)++[(upM l[k]).1.C]=(l.take (k+1)).map λy=>(upM y).1.C:=WK
def NR(k:Int):Ob := .cells [.int .i64 k, .int .i64 0, .str [], .slice [] .nil, .slice [] .nil]
def aCE(n m:Nat)(l:List Nd):aE n m (l.map λy=>(upM y).1.C)=true:=aC n m _ (bF (λy=>AH.K _) l)
def VM(x:Nd)(Y:x.cnt<=68719476736)(E:∀k (h:k<x.l.length),AN prog 30 [x.l[k].C] (.tup [(upM x.l[k]).1.C, .bool (upM x.l[k]).2])):
  AN prog 68 [x.C] (oQ x).C:=by
 have i:=x.cr;have hlt:=x.bu;have w:=x.b9;have r:x.keys.length<=68719476736:=om
 refine pER [.cell 2 43] func68 (O:=AH.K _) (ha:=by simp[aB,AV.K,Nd.K]) ?_;by_cases f:x.kind=0
 ·have u:(x.kind==0)=true:=by rw[f];rfl
  have X:oQ x=x.v:=by unfold oQ;rw[if_pos f]
  rw[X]
  repeat' first|refine .br ?_|refine .s1 ?_|(refine .q ?_ ?_<;>intro O)|fail
  exact aO
 have u:=beF f;by_cases g:x.kind=1
 ·have e1:(x.kind==1)=true:=by rw[g];rfl
  have t:(x.kind==2)=false:=Y4
  have X:oQ x=match upL x.l with|some vs=>AH.mk 6 0 [] vs []|none=>bO:=by unfold oQ;rw[if_neg f,if_pos g];first|done|(cases upL x.l<;>rfl)
  rw[X,Q5];refine .ac ?_;refine lI 1 3 true 5 ?_;refine bK (hj:=rfl) x.l.length (λk=>[(24, .int .i64 k),(23, .int .i64 x.l.length),(22, .slice x.nl .no),(3, .ptr 1 0),(2, .ptr 0 0),(1, .ab x.C)]) (λk=>⟨[NR 0, .cells [.int .i64 6, .int .i64 0, .str [], .slice ((x.l.take k).map λy=>(upM y).1.C) (.own 0 5), .slice [] .nil]],[.len k]⟩) (λk=>((x.l.take k).all λy=>(upM y).2)=true) ⟨rfl,congrArg (AV.int .i64) (by rw[i]),rfl,rfl,rfl,rfl,trivial⟩ λk hk hj=> ?_
  have e:((x.l.take k).map λy=>(upM y).1.C).length=k:=Wh
  by_cases h1:k<x.l.length
  ·have o:=ltT h1;have x1:=H0 h1;have O:=E k h1;have c:=Q8 h1;have a:=KD (p:=λy:Nd=>(upM y).2) h1;have d:=Q7 (p:=λy:Nd=>(upM y).2) h1;cases hb:(upM x.l[k]).2 with
   |false=>
    rw[hb]at O;rw[d hb];generalize x.l[k]=y at *
    refine .go ?_;exact aI rfl cE
   |true=>
    rw[hb]at O;simp only[hj,hb,Bool.and_self]at a;have b:aE 2 1 (((x.l.take k).map λy=>(upM y).1.C)++[(upM x.l[k]).1.C])=true:=by rw[c];exact aCE _ _ _
    generalize x.l[k]=y at *
    repeat' first|refine .s1 ?_|(refine .q ?_ ?_<;>intro O)|refine bU (n:=k) e ?_|fail
    refine⟨h1,Z0,Y0, ?_,by rw[<-c];rfl,a⟩;simp[-List.map_take,aQ,aL,Ob.aa,Tok.aa,aE,AV.aa,NR];exact b
  ·have o:=ltF h1;obtain rfl:k=x.l.length:=om
   rw[take_length]at hj ⊢;rw[if_pos hj];refine .go ?_;refine aI rfl ?_;have:(AH.mk 6 0 [] (x.l.map λy=>(upM y).1) []).C = .agg [.int .i64 6, .int .i64 0, .str [], .slice (x.l.map λy=>(upM y).1.C) .no, .slice [] .no]:=by unfold AH.C;rw[AH.b0,AH.bf];simp only[AH.l,AH.m,AH.kind,AH.n,AH.s,List.map_map,map_nil];rfl
   rw[this];exact AC.agg (AA.cons (aG _) (AA.cons (aG _) (AA.cons (aG _) (AA.cons (AC.no (aD _)) (AA.cons (AC.no (aD _)) (aD _))))))
 have e1:=beF g;by_cases j:x.kind=2
 ·have t:(x.kind==2)=true:=by rw[j];rfl
  have X:oQ x=match upP x.keys x.l with|some ms=>AH.mk 7 0 [] [] ms|none=>bO:=by unfold oQ;rw[if_neg f,if_neg g,if_pos j];first|done|(cases upP x.keys x.l<;>rfl)
  rw[X,Q6];refine .ac ?_;refine lI 1 4 true 6 ?_;refine bK (hj:=rfl) x.l.length (λk=>[(24, .int .i64 k),(23, .int .i64 x.l.length),(22, .slice x.nl .no),(3, .ptr 1 0),(2, .ptr 0 0),(1, .ab x.C)]) (λk=>⟨[NR 0, .cells [.int .i64 7, .int .i64 0, .str [], .slice [] .nil, .slice ((yL x.keys (x.l.take k)).map AG.C) (.own 0 6)]],[.len k]⟩) (λk=>((x.l.take k).all λy=>(upM y).2)=true) ⟨rfl,congrArg (AV.int .i64) (by rw[i]),rfl,rfl,rfl,rfl,trivial⟩ λk hk hj=> ?_
  have e:((yL x.keys (x.l.take k)).map AG.C).length=k:=by rw[length_map,KC,List.length_take];omega
  by_cases h1:k<x.l.length
  ·have o:=ltT h1;have x1:=H0 h1;have O:=E k h1;have c:=H1 x.keys x.l k h1;have a:=KD (p:=λy:Nd=>(upM y).2) h1;have d:=Q7 (p:=λy:Nd=>(upM y).2) h1;have z:=aD5 x k r om;cases hb:(upM x.l[k]).2 with
   |false=>
    rw[hb]at O;rw[d hb];generalize x.l[k]=y at *
    refine .go ?_;exact aI rfl cE
   |true=>
    rw[hb]at O;simp only[hj,hb,Bool.and_self]at a;have b:aE 2 1 ((yL x.keys (x.l.take k)).map AG.C++[AG.C (.mk (x.keys.getD k []) (upM x.l[k]).1)])=true:=by
     have:=dE 2 1 (yL x.keys (x.l.take (k+1)))
     rwa [c,map_append]at this
    generalize x.l[k]=y at *
    repeat' first|refine .s1 ?_|(refine .q ?_ ?_<;>intro O)|refine bU (n:=k) e ?_|fail
    refine⟨h1,Z0,Y0, ?_,by rw[c,map_append];rfl,a⟩;simp[-List.map_take,aQ,aL,Ob.aa,Tok.aa,aE,AV.aa,NR];exact b
  ·have o:=ltF h1;obtain rfl:k=x.l.length:=om
   rw[take_length]at hj ⊢;rw[if_pos hj];refine .go ?_;refine aI rfl ?_;have:(AH.mk 7 0 [] [] (yL x.keys x.l)).C = .agg [.int .i64 7, .int .i64 0, .str [], .slice [] .no, .slice ((yL x.keys x.l).map AG.C) .no]:=by unfold AH.C;rw[AH.b0,AH.bf];rfl
   rw[this];exact AC.agg (AA.cons (aG _) (AA.cons (aG _) (AA.cons (aG _) (AA.cons (AC.no (aD _)) (AA.cons (AC.no (aD _)) (aD _))))))
 ·have t:=beF j;have X:oQ x=bO:=by unfold oQ;rw[if_neg f,if_neg g,if_neg j]
  rw[X];refine .ac ?_;exact aI rfl cE
def tUp:∀(N:Nat) (x:Nd),x.cnt<=N->N<=68719476736->AN prog 30 [x.C] (.tup [(upM x).1.C, .bool (upM x).2])
 |0,x,h,_=>by have:=x.cd;omega
 |N+1,x,h,c=>by
  have a:=VM x om λk hk=>tUp N x.l[k] (by have:=KB hk;omega) om
  refine pER [.cell 2 43, .tmp 3] func30 (ha:=by simp[aB,AV.K,Nd.K]) ?_;rw[VL];generalize oQ x=w at a;cases d:x.must with
  |false=>rw[if_neg Wa];refine .ac ?_;exact aO
  |true=>
   by_cases hw:w.kind=0
   ·have b:(w.kind==0)=true:=by rw[hw];rfl
    rw[if_pos ⟨hw,rfl⟩];refine .ac ?_;exact aI rfl (AC.tup (AA.cons cE (aD _)))
   ·have b:=beF hw
    rw[if_neg (by simp[hw])];refine .ac ?_;exact aO
def gA:List Sl->List AF->List AF
 |[],I=>I
 | .mk k a nm ar di on se::l,I=>gA l (gA se (if k=1 then cH I nm else I))
termination_by l=>fS l
decreasing_by
 all_goals simp_wf
 all_goals simp only[fS,Sl.size]
 all_goals omega
theorem pX(I:List AF):gA [] I=I:=by rw[gA]
theorem xY(x:Sl)(l:List Sl)(I:List AF):gA (x::l) I=gA l (gA x.O (if x.kind=1 then cH I x.name else I)):=by cases x;rw[gA];rfl
theorem KE:∀(a b:List Sl) (I:List AF),gA (a++b) I=gA b (gA a I)
 |[],b,I=>by rw[List.nil_append,pX]
 |x::a,b,I=>by rw[cons_append,xY,KE a b,xY]
def H2(h:k<l.length)(I:List AF):gA (l.take (k+1)) I=gA l[k].O (if l[k].kind=1 then cH (gA (l.take k) I) l[k].name else gA (l.take k) I):=by rw[List.take_succ_eq_append_getElem h,KE,xY,pX]
def pY:∀(N:Nat) (l:List Sl) (I:List AF),aA Sl.size l<=N->(∃ys,gA l I=I++ys)/\(I.Nodup->(gA l I).Nodup)/\(gA l I).length<=I.length+aA Sl.size l
 |_,[],I,_=>by rw[pX];exact⟨⟨[],Wa⟩,id,om⟩
 |0,x::l,I,h=>by rw[aA]at h;have:=x.au;omega
 |N+1,x::l,I,h=>by
  rw[aA]at h;have Y:=x.ax;rw[xY,aA];have h0:(∃ys,(if x.kind=1 then cH I x.name else I)=I++ys)/\(I.Nodup->(if x.kind=1 then cH I x.name else I).Nodup)/\(if x.kind=1 then cH I x.name else I).length<=I.length+1:=by
   split
   ·unfold cH;split
    ·simp_all
    ·grind
   ·simp_all
  generalize (if x.kind=1 then cH I x.name else I)=a at *;obtain⟨⟨k,b⟩,g,d⟩:=h0;obtain⟨⟨m,e1⟩,i,e⟩:=pY N x.O a om;obtain⟨⟨n,c⟩,j,f⟩:=pY N l (gA x.O a) (by have:=x.au;omega);grind
def F7(l:List Sl)(I:List AF):(gA l I).length<=I.length+aA Sl.size l:=(pY _ l I (le_refl _)).2.2
def DJ(d:AR):Nat->Nat->List AF->List AF
 |0,_,l=>l
 |n+1,i,l=>match l[i]? with
  |none=>l
  |some nm=>DJ d n (i+1) (match iT d nm with|some f=>gA f.O l|none=>l)
def iA(d:AR)(l:List Sl):Nat:=aA Sl.size l+aA (λf:Af=>aA Sl.size f.O) d.ai
def mC(d:AR)(l:List Sl):List AF:=DJ d (iA d l) 0 (gA l [])
def oR(d:AR):Bool:=d.ai.any λf=>decide (f.name∈mC d f.O)
structure BF(d:AR)(w:List Sl)(i:Nat)(l:List AF):Prop where
 fin:DJ d (iA d w-i) i l=mC d w
 lei:i<=l.length
 nodup:l.Nodup
 len:l.length+aA (λf:Af=>aA Sl.size f.O) (gD d (l.take i))<=iA d w
def zD(d:AR)(w:List Sl):BF d w 0 (gA w []) where
 fin:=rfl;lei:=zero_le _;nodup:=(pY _ w [] (le_refl _)).2.1 List.nodup_nil;len:=by have h1:=F7 w [];rw[take_zero,show gD d []=d.ai from List.filter_eq_self.2 Wa];unfold iA;simp_all
def zE{d:AR}{w:List Sl}{i:Nat}{l:List AF}(h:BF d w i l)(X:i<l.length):BF d w (i+1) (match iT d l[i] with|some f=>gA f.O l|none=>l):=by
 have m:=h.len;have k:l.take (i+1)=l.take i++[l[i]]:=List.take_succ_eq_append_getElem X;have g:l[i]∉l.take i:=by intro c;obtain⟨j,hj,e⟩:=List.getElem_of_mem c;rw[List.length_take]at hj;rw[List.getElem_take]at e;exact(List.pairwise_iff_getElem.1 h.nodup) j i om X om e
 have a:DJ d (iA d w-(i+1)) (i+1) (match iT d l[i] with|some f=>gA f.O l|none=>l)=mC d w:=by rw[<-h.fin,show iA d w-i=iA d w-(i+1)+1 by omega,DJ,List.getElem?_eq_getElem X]
 cases hf:iT d l[i] with
 |none=>rw[hf]at a;refine⟨a,Wl,h.nodup, ?_⟩;rw[k];have:=OT d (l.take i) l[i] (λf:Af=>aA Sl.size f.O);grind
 |some f=>
  rw[hf]at a;obtain⟨c,b⟩:=jO hf;obtain⟨⟨ys,e1⟩,o,p⟩:=pY _ f.O l (le_refl _);refine⟨a,by dsimp only;rw[e1,List.length_append];omega,o h.nodup, ?_⟩;dsimp only;have n:(gA f.O l).take (i+1)=l.take i++[l[i]]:=WN
  rw[n, <-b];have:=uT d (l.take i) c (by rw[b];exact g) (λf:Af=>aA Sl.size f.O);omega
theorem xZ{d:AR}{w:List Sl}{i:Nat}{l:List AF}(h:BF d w i l)(X:l.length<=i):mC d w=l:=by
 rw[<-h.fin];cases iA d w-i with
 |zero=>rfl
 |succ n=>rw[DJ,List.getElem?_eq_none X]
def B9(l:List Sl)(xs:List AF):Prop:=AQ prog 106 [.slice (xs.map AV.str) (.own 0 1), .slice (l.map Sl.C) .no] ⟨[],[.len xs.length]⟩ (λe H=>e = .ret (.slice ((gA l xs).map AV.str) (.own 0 1))/\H=⟨[],[.len (gA l xs).length]⟩)
def NS(l:List Sl)(hl:aA Sl.size l<=68719476736)(E:∀x∈l,∀ys:List AF,ys.length+aA Sl.size x.O<=137438953472->B9 x.O ys)(xs:List AF)(j:xs.length+aA Sl.size l<=137438953472):
  AB prog Tryz.f106.ntmps [] (uB Tryz.f106) (fin [4] (λe H=>e = .ret (.slice ((gA l xs).map AV.str) (.own 0 1))/\H=⟨[],[.len (gA l xs).length]⟩))
   [(0, .slice (xs.map AV.str) (.own 0 1)),(1, .slice (l.map Sl.C) .no)] ⟨[],[.len xs.length]⟩:=by
 have p:=aJ Sl.au l;refine .ac ?_;refine bK (hz:=(by rw[take_zero,pX])) l.length (λk=>[(9, .int .i64 k),(8, .int .i64 l.length),(7, .slice (l.map Sl.C) .no),(0, .slice ((gA (l.take k) xs).map AV.str) (.own 0 1))]) (λk=>⟨[],[.len (gA (l.take k) xs).length]⟩) (λ_=>True) ⟨rfl,rfl,rfl,by rw[take_zero,pX];rfl,trivial⟩ λk hk _=> ?_
 by_cases h1:k<l.length
 ·have o:=ltT h1;have x1:=aU (f:=Sl.C) h1;have m:=F7 (l.take k) xs;have t:=gO (f:=Sl.size) h1;have r:=fO Sl.size l (k+1);have j:=l[k].ax;have c:=H2 h1 xs;have X:=E l[k] (getElem_mem h1);generalize gA (l.take k) xs=ys at *;generalize gA (l.take (k+1)) xs=R at *;generalize l[k]=x at *;have b:=gS ys x.name om;have d:AA [.slice (ys.map AV.str) (.own 0 1), .str x.name] [.slice (ys.map AV.str) .no, .str x.name]:=AA.cons (AC.no (aD _)) (aD _);by_cases g:x.kind=1
  ·have e1:(x.kind==1)=true:=by rw[g];rfl
   rw[if_pos g]at c;unfold cH at c;by_cases h:x.name∈ys
   ·rw[decide_eq_true h]at b;rw[if_pos h]at c;have a:=X ys om;unfold B9 at a;rw[<-c, <-x.bb]at a;repeat' first|refine aH (hw:=d) b ?_|refine .s1 ?_|(refine .q ?_ ?_<;>intro O)|refine yB 0 rfl a rfl (aR _) (aR _) WP (aD _) rfl ?_|fail
    exact⟨h1,Z0,Wg,rfl,rfl,trivial⟩
   ·rw[decide_eq_false h]at b;rw[if_neg h]at c;have a:=X (ys++[x.name]) Ya;unfold B9 at a;rw[<-c, <-x.bb,map_append,List.length_append]at a;have i:aB (ys.map AV.str++[AV.str x.name])=true:=by have:=aR (ys++[x.name]);rwa [map_append]at this
    repeat' first|refine aH (hw:=d) b ?_|refine .s1 ?_|(refine .q ?_ ?_<;>intro O)|refine bU (n:=ys.length) (length_map ..) ?_|refine yB 0 rfl a rfl i (aR _) WP (aD _) rfl ?_|fail
    exact⟨h1,Z0,Wg,rfl,rfl,trivial⟩
  ·have e1:=beF g;rw[if_neg g]at c;have a:=X ys om;unfold B9 at a;rw[<-c, <-x.bb]at a;repeat' first|refine .s1 ?_|(refine .q ?_ ?_<;>intro O)|refine yB 0 rfl a rfl (aR _) (aR _) WP (aD _) rfl ?_|fail
   exact⟨h1,Z0,Wg,rfl,rfl,trivial⟩
 ·have o:=ltF h1;obtain rfl:k=l.length:=om
  rw[take_length];refine .go ?_;exact⟨rfl,rfl⟩
def VN:∀(N:Nat) (l:List Sl),aA Sl.size l<=N->N<=68719476736->∀xs:List AF,xs.length+aA Sl.size l<=137438953472->B9 l xs
 |N,l,h,b=>λxs a=>by refine cK [4] func106 (NS l om (λx Y ys hy=> ?_) xs a);have h1:=aN (size:=Sl.size) Y;have h2:=x.ax;exact VN (N-1) x.O om om ys hy
termination_by N=>N
decreasing_by have:=x.au;omega
def VO(l:List Sl)(hl:aA Sl.size l<=68719476736):AQ prog 106 [.slice [] .nil, .slice (l.map Sl.C) .no] ⟨[],[]⟩ (λe H=>e = .ret (.slice ((gA l []).map AV.str) (.own 0 1))/\H=⟨[],[.len (gA l []).length]⟩):=by refine cK [4] func106 ?_;refine eJ 0 false 1 rfl ?_;exact AB.weaken (s:=[(0, .slice [] (.own 0 1)),(1, .slice (l.map Sl.C) .no)]) (NS l hl (λx Y ys hy=>VN 68719476736 x.O Yi (le_refl _) ys hy) [] (by simp only[List.length_nil];omega)) Z0
def Q9(d:AR)(w:List Sl)(m:iA d w<=68719476736)(e:d.ai.length<=68719476736):AN prog 49 [d.C, .slice (w.map Sl.C) .no] (.slice ((mC d w).map AV.str) .no):=by
 have r:aA Sl.size w<=iA d w:=XH
 have h0:=VO w om;refine pEn 4 func49 ?_;repeat' first|refine .br ?_|refine .s1 ?_|(refine .q ?_ ?_<;>intro O)|refine jW rfl rfl h0 Xx (aD _) Yw rfl ?_|fail
 change AB _ _ _ _ _ _ _;refine AB.loop (λj s' H=>∃(i:Nat) (l:List AF),j=iA d w-i/\BF d w i l/\H=⟨[],[.len l.length]⟩/\s'= [(6, .int .i64 i),(5, .slice (l.map AV.str) (.own 0 1)),(2, .ab d.C)])
  (s0:=[(6, .int .i64 (0:Nat)),(5, .slice ((gA w []).map AV.str) (.own 0 1)),(2, .ab d.C)]) Z0 ⟨0,_,rfl,zD d w,rfl,rfl⟩ ?_
 rintro j s' H ⟨i,l,rfl,hI,rfl,rfl⟩;have h:=hI.len;by_cases h1:i<l.length
 ·have k:decide ((i:Int)≥(l.length:Int))=false:=decide_eq_false om;have x1:=aU (f:=AV.str) h1;have hn:=zE hI h1;have c:=hn.len;have hf:=Vy d l[i] e;unfold cJ at hf;cases a:iT d l[i] with
  |none=>
   rw[a]at hf hn;dsimp only at hf hn;generalize l[i]=nm at *;repeat' first|refine .s1 ?_|(refine .q ?_ ?_<;>intro O)|fail
   exact⟨iA d w-(i+1),om,[(6, .int .i64 ((i+1:Nat):Int)),(5, .slice (l.map AV.str) (.own 0 1)),(2, .ab d.C)],Z0,Wg,rfl,i+1,l,rfl,hn,rfl,rfl⟩
  |some f=>
   rw[a]at hf hn c;dsimp only at hf hn c;generalize l[i]=nm at *;obtain⟨p,n⟩:=jO a;have o:=aN (size:=λf:Af=>aA Sl.size f.O) p;have g:aA Sl.size f.O<=iA d w:=XH
   have b:=VN (iA d w) f.O g m l om;unfold B9 at b;repeat' first|refine .s1 ?_|(refine .q ?_ ?_<;>intro O)|refine yB 0 rfl b rfl (aR _) (aR _) Xx (aD _) rfl ?_|fail
   exact⟨iA d w-(i+1),om,[(6, .int .i64 ((i+1:Nat):Int)),(5, .slice ((gA f.O l).map AV.str) (.own 0 1)),(2, .ab d.C)],Z0,Wg,rfl,i+1,_,rfl,hn,rfl,rfl⟩
 ·have k:decide ((i:Int)≥(l.length:Int))=true:=decide_eq_true om;rw[xZ hI om];repeat' first|refine .s1 ?_|(refine .q ?_ ?_<;>intro O)|fail
  exact aP rfl (AC.no (aD _))
theorem TG(d:AR)(f:Af)(hf:f∈d.ai)(e:d.size<=1048576):AN prog 47 [f.C, .ab d.C] (.bool (decide (f.name∈mC d f.O))):=by
 have h1:=aN (size:=λf:Af=>aA Sl.size f.O) hf;have h2:aA (λf:Af=>aA Sl.size f.O) d.ai<=aA Af.size d.ai:=nE (λf=>Wy) _;have h3:aA Af.size d.ai<=d.size:=X7
 have h4:=aJ (size:=Af.size) (λf=>Wy) d.ai;have c:iA d f.O<=2097152:=XH
 have hr:=Q9 d f.O om om;have a:(mC d f.O).length<=9223372036854775807:=by
  have b:∀(n i:Nat) (l:List AF),BF d f.O i l->iA d f.O-i<=n->(mC d f.O).length<=iA d f.O:=by
   intro n;induction n with
   |zero=>intro i l h hn;have:=h.len;rw[xZ h (by have:=h.lei;omega)];omega
   |succ n E=>
    intro i l h hn;by_cases X:i<l.length
    ·exact E (i+1) _ (zE h X) om
    ·have:=h.len;rw[xZ h om];omega
  have:=b _ 0 _ (zD d f.O) (le_refl _);omega
 have O:=gS (mC d f.O) f.name a;refine pEn 3 func47 ?_;refine .ac ?_;exact bW
def Hu(l:List Af)(f:FuncId)(cs:List AV)(p:Af->Bool)(hl:l.length<=9223372036854775807)(a:aB cs=true)(hf:∀x∈l,AN prog f (x.C::cs) (.bool (p x))):
  AN prog 46 [.slice (l.map Af.C) .no, .fn (.func f) [] cs] (.bool (l.any p)):=by have h:=Hc l f cs p hl a hf;refine pEn 4 func46 (ha:=by simp[AV.K,aB,jX,a]) ?_;refine .go ?_;exact aP rfl (AC.eq (congrArg AV.bool (Fc p l)))
def Ra(d:AR)(a:d.size<=1048576):AN prog 19 [d.C] (.bool (oR d)):=by
 have h3:aA Af.size d.ai<=d.size:=X7
 have h4:=aJ (size:=Af.size) (λf=>Wy) d.ai;have O:=Hu d.ai 47 [.ab d.C] (λf=>decide (f.name∈mC d f.O)) om (by simp[aB,AV.K,AR.K]) (λf hf=>TG d f hf a);refine pEn 2 func19 ?_;refine .ac ?_;exact bW
end Go.Proofs.YtdodieljpcfpcaaGreatDoor
namespace Go.Av
open Go
def DK[AK]{H:St}{xs ys:List AV}{z0:AV}{T': List Tok}(hT:H.T[k]? =some (.Y xs))(h:AA xs ys)(hl:ys.length=xs.length)(hT': j5 k (.Y ys) H.T some=some T'):AJ H z0 ⟨H.B,T'⟩ z0:=λg w v a hr=>by
 obtain⟨f,c⟩:=d6 _ _ _ _ _ hT'
 have b:T'= H.T.set k (.Y ys):=(Option.some.inj c).symm
 subst b
 have d:∀(j:Nat) (t:Tok) (r:A9),g.tk[j]? =some r->(H.T.set k (.Y ys))[j]? =some t->A7 g w r t:=λj t r hj ht=>by
  by_cases e:j=k
  ·subst e
   rw[List.getElem?_set_self f]at ht
   cases ht
   obtain⟨i,l,m,Vs,n,o,p,q⟩:=a.tok j _ r hj hT
   exact⟨by rw[hl];exact i,l,m,Vs,h g w Vs n,o,p,q⟩
  ·rw[List.getElem?_set_ne (Ne.symm e)]at ht
   exact a.tok j t r hj ht
 exact⟨g,fD g w,⟨a.lenB,(by show g.tk.length=(H.T.set k (.Y ys)).length;rw[List.length_set];exact a.lenT),a.ob,a.nodup,a.noim,d,a.tkz,a.tkd,a.imlt,a.gl⟩,hr⟩
end Go.Av
namespace Go.Proofs.YtdodieljpcfpcaaGreatDoor
open Go Go.Av Go.Proofs.Tryz
attribute [local irreducible] AB AD AN AQ Av.AS AZ
def U5(B:List Ob)(T:List Tok):AQ prog 25 [] ⟨B,T⟩ (λe σ'=> e = .ret (.an T.length 10 1 0 0)/\σ'= ⟨B,T++[.Y [knG 2 false]]⟩):=by
 refine cK [0] func25 ?_
 repeat' first|refine SO (z:=10) rfl rfl (oM _) (oN _ _ _) ?_|refine .s1 ?_|(refine .q ?_ ?_<;>intro O)|fail
 exact⟨rfl,rfl⟩
def U6(s:AI)(o:Aj):AN prog 26 [s.C,o.C] (.str (aV s o)):=by
 refine pEn 4 func26 ?_;unfold aV;by_cases c:o.kind=1
 ·have n:(o.kind==1)=true:=by rw[c];rfl
  rw[if_pos c];refine .ac ?_;exact bW
 ·have n:=beF c;rw[if_neg c];refine .ac ?_;exact bW
def rdJ(j:Nat):List (List Aa)->List AV
 |[]=>[]
 |[r]=>[.slice (r.map Aa.C) (.own j 2)]
 |r::q::l => .slice (r.map Aa.C) .no::rdJ j (q::l)
def kI(R:List (List Aa)):List AV:=R.map λr => .slice (r.map Aa.C) .no
def F8(j:Nat):∀R,AA (rdJ j R) (kI R)
 |[]=>aD _
 |[r]=>AA.cons (AC.no (aD _)) (aD _)
 |r::q::l=>AA.cons (aG _) (F8 j (q::l))
theorem Jn(j:Nat):∀R,(rdJ j R).length=R.length
 |[]=>rfl
 |[r]=>rfl
 |r::q::l=>by rw[rdJ,length_cons,Jn j (q::l)];rfl
theorem KF(j:Nat):∀R,rdJ j (R++[[]])=kI R++[.slice [] (.own j 2)]
 |[]=>rfl
 |[r]=>rfl
 |r::q::l=>by
  have:=KF j (q::l)
  rw[cons_append,cons_append,rdJ, <-cons_append,this];rfl
def tS(m n:Int):Int:=if m<n then-1 else if n<m then 1 else 0
def kJ(m n:AF):Int:=if nJ m n then-1 else if m==n then 0 else 1
def o9(a b:AS):Int:=if a.name==[]&&b.name==[] then tS a.at_ b.at_ else if a.name==[] then-1 else if b.name==[] then 1 else kJ a.name b.name
def kM:Ac->Ac->Int
 |[],[]=>0
 |[],_::_ => -1
 |_::_,[]=>1
 |a::p,b::q=>if o9 a b != 0 then o9 a b else kM p q
def Pv(n:Int):AN prog 190 [.int .i64 n] (.bool false):=by refine pEn 2 func190 ?_;refine .go ?_;exact aP rfl (AC.eq Wa)
def Pw(n:AF):AN prog 191 [.str n] (.bool false):=by refine pEn 2 func191 ?_;refine .go ?_;exact aP rfl (AC.eq Wa)
def TH(m n:Int):AN prog 125 [.int .i64 m, .int .i64 n] (.int .i64 (tS m n)):=by
 refine pEn 4 func125 ?_
 repeat' first|refine .s1 ?_|(refine .q ?_ ?_<;>intro O)|refine aH (Pv _) ?_|fail
 all_goals refine aP rfl (AC.eq ?_)
 all_goals simp_all[tS]
 omega
def TJ(m n:AF):AN prog 126 [.str m, .str n] (.int .i64 (kJ m n)):=by
 refine pEn 4 func126 ?_
 repeat' first|refine .s1 ?_|(refine .q ?_ ?_<;>intro O)|refine aH (Pw _) ?_|fail
 all_goals refine aP rfl (AC.eq ?_)
 all_goals simp_all[kJ]
def TK(a b:AS):AN prog 73 [a.C,b.C] (.int .i64 (o9 a b)):=by
 refine pEn 4 func73 ?_
 repeat' first|refine .s1 ?_|(refine .q ?_ ?_<;>intro O)|refine aH (TH _ _) ?_|refine aH (TJ _ _) ?_|fail
 all_goals refine aP rfl (AC.eq ?_)
 all_goals simp_all[o9]
theorem NT(n m:Nat)(l:List AS):aE n m (l.map AS.C)=true:=aC n m _ (dK l)
def Jo{f:F->AV}{l:List F}(h:k<l.length):(l.map f)[k]? =some (f l[k]):=XD
theorem Jp{a b:Ac}(h1:k<a.length)(h2:k<b.length)(h:o9 a[k] b[k]=0):kM (a.drop k) (b.drop k)=kM (a.drop (k+1)) (b.drop (k+1)):=by rw[drop_eq_getElem_cons h1,drop_eq_getElem_cons h2,kM,h];rfl
theorem Mp{a b:Ac}(h1:k<a.length)(h2:k<b.length)(h:o9 a[k] b[k]≠0):kM (a.drop k) (b.drop k)=o9 a[k] b[k]:=by rw[drop_eq_getElem_cons h1,drop_eq_getElem_cons h2,kM,if_pos Wp]
theorem KG{a b:Ac}(h1:k<a.length)(h2:b.length<=k):kM (a.drop k) (b.drop k)=1:=by rw[drop_eq_getElem_cons h1,List.drop_eq_nil_of_le h2,kM]
def KH(a b:Ac)(ha:a.length<=9223372036854775807):AN prog 72 [Ac.C a,Ac.C b, .fn (.func 73) [] []] (.int .i64 (kM a b)):=by
 refine pEn 6 func72 (ha:=by simp[aB,AV.K,Ac.C,dK]) ?_;refine .go ?_;change AB _ _ _ _ _ _ _;refine AB.loop (λn s H=>∃k:Nat,n=a.length-k/\k<=a.length/\k<=b.length/\kM a b=kM (a.drop k) (b.drop k)/\H=⟨[],[]⟩/\
  s=[(13, .int .i64 k),(12, .int .i64 a.length),(11,Ac.C a),(0,Ac.C a),(1,Ac.C b),(2, .fn (.func 73) [] [])])
  (s0:=[(13, .int .i64 (0:Nat)),(12, .int .i64 a.length),(11,Ac.C a),(0,Ac.C a),(1,Ac.C b),(2, .fn (.func 73) [] [])])
  Z0 ⟨0,rfl,zero_le _,zero_le _,rfl,rfl,rfl⟩ ?_
 rintro n s H ⟨k,rfl,hk,hkb,hp,rfl,rfl⟩;by_cases h1:k<a.length
 ·have i:=ltT h1;have x1:=Jo (f:=AS.C) h1;by_cases h2:k<b.length
  ·have j:decide ((b.length:Int)<=(k:Int))=false:=by simp[h2]
   have l:=Jo (f:=AS.C) h2;have c:=TK a[k] b[k]
   repeat' first|refine .s1 ?_|(refine .q ?_ ?_<;>intro O)|refine Ce c (aD _) ?_|fail
   ·have h:o9 a[k] b[k]≠0:=by simpa using O
    refine aP rfl (AC.eq ?_);rw[hp,Mp h1 h2 h]
   ·have d:o9 a[k] b[k]=0:=by simpa using O
    refine⟨a.length-(k+1),om,[(13, .int .i64 ((k+1:Nat):Int)),(12, .int .i64 a.length),(11,Ac.C a),(0,Ac.C a),(1,Ac.C b),(2, .fn (.func 73) [] [])],
     Z0,by simp[aM,AV.aa,aE,Ac.C,NT],rfl,k+1,rfl,om,om,by rw[hp,Jp h1 h2 d],rfl,rfl⟩
  ·have j:decide ((b.length:Int)<=(k:Int))=true:=by simp;omega
   refine .go ?_;refine aP rfl (AC.eq ?_);rw[hp,KG h1 om]
 ·have i:=ltF h1;have g:k=a.length:=om
  repeat' first|refine .s1 ?_|(refine .q ?_ ?_<;>intro O)|fail
  all_goals refine aP rfl (AC.eq ?_)
  all_goals rw[hp,g,List.drop_length]
  ·have hlt:a.length<b.length:=by simpa using O
   rw[drop_eq_getElem_cons hlt,kM]
  ·have e:b.length<=a.length:=by simpa using O
   rw[List.drop_eq_nil_of_le e,kM]
structure BZ{α:Type}(c:α->α->Int):Prop where
 bm:∀a b,c b a = -c a b
 tr:∀a b d,c a b<=0->c b d<=0->c a d<=0
 same:∀a b d,c a b=0->c a d=c b d
def Rb{α:Type}{c:α->α->Int}(h:BZ c){a b d:α}(h1:c a b<0)(h2:c b d<=0):c a d<0:=by have h3:=h.tr a b d om h2;have h4:=h.same d a b;have e:=h.bm a d;have f:=h.bm b d;have g:=h.bm a b;have i:=h.bm d b;omega
def Rc{α:Type}{c:α->α->Int}(h:BZ c){a b d:α}(h1:c a b<=0)(h2:c b d<0):c a d<0:=by have h3:=h.tr a b d h1 om;have h4:=h.same a d b;have e:=h.bm b d;omega
def Mq:BZ tS:=by
 refine⟨λa b=> ?_,λa b d=> ?_,λa b d=> ?_⟩<;>unfold tS
 ·split<;>split<;>first|omega|(split<;>omega)
 ·intro h1 h2;split at h1<;>split at h2<;>split<;>first|omega|(split at h1<;>first|omega|(split at h2<;>first|omega|(split<;>omega)))|(split at h2<;>first|omega|(split<;>omega))|(split<;>omega)
 ·intro h1;have:a=b:=by
   split at h1
   ·omega
   ·split at h1<;>omega
  rw[this]
def oS{α:Type}(c:α->α->Int):List α->List α->Int
 |[],[]=>0
 |[],_::_ => -1
 |_::_,[]=>1
 |a::p,b::q=>if c a b != 0 then c a b else oS c p q
def Mr{c:F->F->Int}(h:BZ c):BZ (oS c):=by
 have f:∀(a b:F) (p q:List F),oS c (a::p) (b::q)=if c a b=0 then oS c p q else c a b:=by intro a b p q;simp only[oS,bne_iff_ne,ne_eq];by_cases e:c a b=0<;>simp[e]
 refine⟨?_, ?_, ?_⟩
 ·intro p;induction p with
  |nil=>intro q;cases q<;>rfl
  |cons a p E=>
   intro q;cases q with
   |nil=>rfl
   |cons b q=>
    have:=h.bm a b;rw[f,f,E q];by_cases e:c a b=0
    ·rw[if_pos e,if_pos om]
    ·rw[if_neg e,if_neg om,this]
 ·intro p;induction p with
  |nil=>intro q r h1 h2;cases q<;>cases r<;>simp_all[oS]
  |cons a p E=>
   intro q r h1 h2;cases q with
   |nil=>simp[oS]at h1
   |cons b q=>
    cases r with
    |nil=>simp[oS]at h2
    |cons d r=>rw[f]at h1 h2 ⊢;have h3:=h.tr a b d;have h4:=h.same a b d;have g := @Rc F c h a b d;have i := @Rb F c h a b d;have j:=E q r;split at h1<;>split at h2<;>split<;>omega
 ·intro p;induction p with
  |nil=>intro q r h1;cases q<;>simp_all[oS]
  |cons a p E=>
   intro q r h1;cases q with
   |nil=>simp[oS]at h1
   |cons b q=>
    rw[f]at h1;have e:c a b=0:=by split at h1<;>omega
    rw[if_pos e]at h1;cases r with
    |nil=>rfl
    |cons d r=>rw[f,f,h.same a b d e,E q r h1]
def VP{β:Type}{c:β->β->Int}(f:F->β)(h:BZ c):BZ (λa b=>c (f a) (f b)):=⟨λa b=>h.bm _ _,λa b d=>h.tr _ _ _,λa b d=>h.same _ _ _⟩
theorem Ms(m n:AF):kJ m n=oS (λa b:UInt8=>tS a.toNat b.toNat) m n:=by
 induction m generalizing n with
 |nil=>cases n<;>rfl
 |cons a m E=>
  cases n with
  |nil=>rfl
  |cons b n=>
   have:=E n;unfold kJ at this ⊢;simp only[nJ,oS, <-this];by_cases e:a=b
   ·subst e;have h0:¬a<a:=by simp
    simp[h0,tS]
   ·have g:a.toNat≠b.toNat:=λh=>e (UInt8.toNat_inj.1 h)
    by_cases l:a<b
    ·have c:a.toNat<b.toNat:=UInt8.lt_iff_toNat_lt.1 l;simp[l,tS,c]
    ·have c:¬a.toNat<b.toNat:=λh=>l (UInt8.lt_iff_toNat_lt.2 h)
     have i:b.toNat<a.toNat:=om
     have d:¬((a.toNat:Int)<b.toNat):=om
     have f:(b.toNat:Int)<a.toNat:=om
     simp[l,e,tS,d,f]
def pZ:BZ kJ:=by
 have h:BZ (λm n=>kJ m n):=by simp only[Ms];exact Mr (VP (λa:UInt8=>(a.toNat:Int)) Mq)
 exact h
section
variable {α:Type} {c:α->α->Int}
def eqv(c:α->α->Int)(a:α):α->Bool:=λx=>c a x==0
def An(c:α->α->Int)(xs ys:List α):Prop:=∀a,ys.filter (eqv c a)=xs.filter (eqv c a)
def CJ(c:α->α->Int)(xs:List α):Prop:=xs.Pairwise λx y=>c x y<=0
theorem BZ.b4(h:BZ c)(a:α):c a a=0:=by have:=h.bm a a;omega
def pA(xs:List α):An c xs xs:=λ_=>rfl
theorem An.symm{xs ys:List α}(h:An c xs ys):An c ys xs:=λa=>(h a).symm
theorem An.trans{xs ys zs:List α}(h:An c xs ys)(k:An c ys zs):An c xs zs:=λa=>(k a).trans (h a)
def F9{xs ys b d:List α}(h:An c xs ys)(k:An c b d):An c (xs++b) (ys++d):=λa=>by rw[List.filter_append,List.filter_append,h a,k a]
def NU(h:BZ c){u v:List α}(hlt:∀x∈u,∀y∈v,c y x<0):An c (u++v) (v++u):=λa=>by
 rw[List.filter_append,List.filter_append];cases d:u.filter (eqv c a) with
 |nil=>simp
 |cons x l=>
  have Y:x∈u.filter (eqv c a):=by rw[d];exact List.mem_cons_self
  rw[List.mem_filter]at Y;have hv:v.filter (eqv c a)=[]:=by
   rw[List.filter_eq_nil_iff];intro y hy b;have h1:=hlt x Y.1 y hy;have h2:c a x=0:=by simpa [eqv]using Y.2
   have h3:c a y=0:=by simpa [eqv]using b
   have h4:=h.same a y x h3;omega
  grind
def Ga{p xs ys:List α}(h:An c (p++xs) (p++ys)):An c xs ys:=λa=>by have:=h a;simp_all
def Mt{p xs ys:List α}(h:An c (xs++p) (ys++p)):An c xs ys:=λa=>by have:=h a;simp_all
theorem H3(h:BZ c):∀ {ys zs:List α},CJ c ys->CJ c zs->An c ys zs->ys=zs
 |[],[],_,_,_=>rfl
 |[],z::zs,_,_,hs=>by have:=hs z;simp[eqv,h.b4]at this
 |y::ys,[],_,_,hs=>by have:=hs y;simp[eqv,h.b4]at this
 |y::ys,z::zs,hy,hz,hs=>by
  have a:=pairwise_cons.1 hy;have b:=pairwise_cons.1 hz;have e1:y∈z::zs:=by
   have:y∈(z::zs).filter (eqv c y):=by rw[hs y];simp[eqv,h.b4]
   simp_all
  have i:z∈y::ys:=by
   have:z∈(y::ys).filter (eqv c z):=by rw[<-hs z];simp[eqv,h.b4]
   simp_all
  have h1:c z y<=0:=by
   rcases List.mem_cons.1 e1 with e|e
   ·rw[e,h.b4];omega
   simp_all
  have h2:c y z<=0:=WN
  have h3:=h.bm y z;have h4:c y z=0:=om
  have d:=hs y;rw[List.filter_cons,List.filter_cons,if_pos (by simp[eqv,h4]),if_pos (by simp[eqv,h.b4])]at d;have f:z=y:=(List.cons.inj d).1;subst f;have g:An c ys zs:=Ga (p:=[z]) hs;rw[H3 h a.2 b.2 g]
def ins(c:α->α->Int)(x:α):List α->List α
 |[]=>[x]
 |y::l=>if c x y<=0 then x::y::l else y::ins c x l
def yP(c:α->α->Int):List α->List α
 |[]=>[]
 |x::l=>ins c x (yP c l)
theorem Gb(x:α):∀l:List α,(ins c x l).length=l.length+1
 |[]=>rfl
 |y::l=>by unfold ins;split<;>simp[Gb x l]
theorem Cp:∀l:List α,(yP c l).length=l.length
 |[]=>rfl
 |x::l=>by rw[yP,Gb,Cp l];rfl
def NV{x z:α}:∀ {l:List α},z∈ins c x l->z=x\/z∈l
 |[],hz=>by simpa [ins]using hz
 |y::l,hz=>by
  unfold ins at hz;split at hz
  ·simpa using hz
  ·rcases List.mem_cons.1 hz with rfl|hz
   ·simp
   ·rcases NV hz with rfl|hz<;>simp[*]
def NW(h:BZ c)(x:α):∀ {l:List α},CJ c l->CJ c (ins c x l)
 |[],_=>by simp[ins,CJ]
 |y::l,hl=>by
  have b:=pairwise_cons.1 hl;unfold ins;split
  ·rename_i a;refine pairwise_cons.2 ⟨λz hz=> ?_,hl⟩;rcases List.mem_cons.1 hz with rfl|hz
   ·exact a
   ·exact h.tr x y z a (b.1 z hz)
  ·rename_i a;refine pairwise_cons.2 ⟨λz hz=> ?_,NW h x b.2⟩;rcases NV hz with rfl|hz
   ·have:=h.bm z y;omega
   simp_all
def H4(h:BZ c):∀l:List α,CJ c (yP c l)
 |[]=>List.Pairwise.nil
 |x::l=>NW h x (H4 h l)
def KI(h:BZ c)(x:α):∀l:List α,An c (x::l) (ins c x l)
 |[]=>pA _
 |y::l=>by
  unfold ins;split
  ·exact pA _
  ·rename_i d;have h1:An c (x::y::l) (y::x::l):=by refine F9 (xs:=[x]++[y]) (ys:=[y]++[x]) (NU h ?_) (pA l);intro a ha b hb;simp only[List.mem_singleton]at ha hb;subst ha;subst hb;have:=h.bm a b;omega
   exact h1.trans (F9 (xs:=[y]) (ys:=[y]) (pA _) (KI h x l))
def Gc(h:BZ c):∀l:List α,An c l (yP c l)
 |[]=>pA _
 |x::l=>(F9 (xs:=[x]) (ys:=[x]) (pA _) (Gc h l)).trans (KI h x _)
structure Bz(c:α->α->Int)(a b:Nat)(xs ys:List α):Prop where
 len:ys.length=xs.length
 out:∀k,k<a\/b<=k->ys[k]? =xs[k]?
 inn:∀k,a<=k->k<b->∃k', a<=k'/\ k'< b/\ys[k]? =xs[k']?
 st:An c xs ys
def BW(c:α->α->Int)(a b:Nat)(xs:List α):Prop:=∀(i j:Nat) (x y:α),a<=i->i<j->j<b->xs[i]? =some x->xs[j]? =some y->c x y<=0
def TL(a b:Nat)(xs:List α):Bz c a b xs xs:=⟨rfl,λ_ _=>rfl,λk h1 h2=>⟨k,h1,h2,rfl⟩,pA _⟩
theorem Bz.trans{a:Nat}{xs ys d:List α}(h:Bz c a b xs ys)(k:Bz c a b ys d):Bz c a b xs d where
 len:=k.len.trans h.len;out i X:=(k.out i X).trans (h.out i X);inn i h1 h2:=by obtain⟨j,h3,h4,e⟩:=k.inn i h1 h2;obtain⟨l,f,g,m⟩:=h.inn j h3 h4;grind
 st:=h.st.trans k.st
def Bz.wide{a d f:Nat}{xs ys:List α}(h:Bz c a b xs ys)(ha:d<=a)(hb:b<=f):Bz c d f xs ys where
 len:=h.len;out i X:=h.out i om;inn i h1 h2:=by
  by_cases e:a<=i/\i<b
  ·obtain⟨j,h3,h4,g⟩:=h.inn i e.1 e.2;grind
  ·exact⟨i,h1,h2,h.out i om⟩
 st:=h.st
theorem BW.part{a d e:Nat}{xs:List α}(h:BW c a b xs)(ha:a<=d)(hb:e<=b):BW c d e xs:=λi j x y h1 h2 h3=>h i j x y om h2 om
theorem VQ(p u v s:List α)(k:Nat):(p++v++u++s)[k]? =if k<p.length then (p++u++v++s)[k]? else if k<p.length+v.length then (p++u++v++s)[k+u.length]? else if k<p.length+v.length+u.length then (p++u++v++s)[k-v.length]? else (p++u++v++s)[k]? :=WN
def TM(h:BZ c){p u v s:List α}(hlt:∀x∈u,∀y∈v,c y x<0):Bz c p.length (p.length+u.length+v.length) (p++u++v++s) (p++v++u++s) where
 len:=Wh
 out k hk:=WN
 inn k h1 h2:=by
  rw[VQ];repeat' split
  ·omega
  ·exact⟨k+u.length,om,om,rfl⟩
  ·exact⟨k-v.length,om,om,rfl⟩
  ·omega
 st:=by have:An c (p++(u++v)++s) (p++(v++u)++s):=F9 (F9 (pA _) (NU h hlt)) (pA _);simp_all
def Rd{xs:List α}{a:Nat}(c:a<=b)(hb:b<=xs.length):∃p s t,xs=p++s++t/\p.length=a/\s.length=b-a:=by
 refine⟨xs.take a,(xs.take b).drop a,xs.drop b, ?_,Wh,Wh⟩;have:xs.take a=(xs.take b).take a:=by rw[List.take_take,Nat.min_eq_left c]
 simp_all
def Re{xs:List α}{j:Nat}{x:α}(h:xs[j]? =some x):∃p s,xs=p++[x]++s/\p.length=j:=by obtain⟨h1,h2⟩:=List.getElem?_eq_some_iff.1 h;refine⟨xs.take j,xs.drop (j+1), ?_,Wh⟩;rw[List.append_assoc,List.singleton_append, <-h2,List.getElem_cons_drop,List.take_append_drop]
def E6(c:α->α->Int)(a b:Nat)(xs:List α):List α:=xs.take a++yP c ((xs.take b).drop a)++xs.drop b
def Px{p s t:List α}(h:BW c p.length (p.length+s.length) (p++s++t)):CJ c s:=by
 rw[CJ,List.pairwise_iff_getElem];intro i j X hj a;refine h (p.length+i) (p.length+j) _ _ om om om ?_ ?_
 ·grind
 ·grind
def VR{a:Nat}{xs p s t:List α}(e:xs=p++s++t)(h1:p.length=a)(h2:p.length+s.length=b):xs.take a=p/\(xs.take b).drop a=s/\xs.drop b=t:=WN
def Mu(h:BZ c){a:Nat}(d:a<=b){xs ys:List α}(hb:b<=xs.length)(hs:Bz c a b xs ys)(q:BW c a b ys):ys=E6 c a b xs:=by
 obtain⟨p,s,t,e,h1,h2⟩:=Rd d hb;obtain⟨l,s', t', f,g,o⟩:=Rd (xs:=ys) d (by rw[hs.len];exact hb);obtain⟨r,u,v⟩:=VR (b:=b) e h1 om;have m:l=p:=by
  apply List.ext_getElem?;intro k;by_cases hk:k<a
  ·have:=hs.out k (.inl hk);grind
  ·simp_all
 have n:t'= t:=by apply List.ext_getElem?;intro k;have:=hs.out (b+k) (.inr om);rw[e,f,List.getElem?_append_right Wh,List.getElem?_append_right Wh]at this;simp_all
 subst m;subst n;have j:An c s s':= by have:=hs.st;rw[e,f]at this;exact Ga (p:=l) (Mt this)
 have i:CJ c s':= by refine Px (p:=l) (t:=t') ?_;rw[<-f,g,show a+s'.length=b by omega];exact q
 unfold E6;rw[r,u,v,f];congr 2;exact(H3 h (H4 h s) i ((Gc h s).symm.trans j)).symm
theorem KJ{xs:List α}{n:Nat}(h:n=xs.length):E6 c 0 n xs=yP c xs:=by grind[E6]
end
section
variable {α:Type} {c:α->α->Int}
def TN{a:Nat}{xs:List α}(h:b<=a+1):BW c a b xs:=λi j x y h1 h2 h3=>om
def sw(xs:List α)(j:Nat)(x y:α):List α:=(xs.set (j+1) x).set j y
theorem aCF{P S:List α}{x y:α}{j:Nat}(h:P.length=j):sw (P++[x]++[y]++S) j x y=P++[y]++[x]++S:=by subst h;unfold sw;simp[List.set_append]
def VS(h:BZ c){xs:List α}{j:Nat}{x y:α}(e1:xs[j]? =some x)(d:xs[j+1]? =some y)(hlt:c y x<0):Bz c j (j+2) xs (sw xs j x y):=by
 obtain⟨P,S,e,f⟩:=Re e1;rw[e,List.getElem?_append_right Wh]at d;have hS:S[0]? =some y:=by rw[<-d];congr 1;simp;omega
 obtain⟨S', rfl⟩:∃S', S=y::S':= by
  cases S with
  |nil=>simp at hS
  |cons z S'=> simp at hS;exact⟨S', by rw[hS]⟩
 have g:xs=P++[x]++[y]++S':= by rw[e];simp
 rw[g,aCF f];have:=TM (p:=P) (u:=[x]) (v:=[y]) (s:=S') h (by intro a ha b hb;simp at ha hb;subst ha;subst hb;exact hlt);rw[f]at this;exact this
theorem U7{xs:List α}{j:Nat}{x y:α}(e1:xs[j]? =some x)(a:xs[j+1]? =some y)(k:Nat):(sw xs j x y)[k]? =if k=j then some y else if k=j+1 then some x else xs[k]? :=by
 have b:=(List.getElem?_eq_some_iff.1 e1).1;have c:=(List.getElem?_eq_some_iff.1 a).1;unfold sw;rw[List.getElem?_set,List.getElem?_set];by_cases h1:j=k
 ·subst h1;simp;omega
 ·by_cases h2:j+1=k
  ·subst h2;simp;omega
  ·rw[if_neg h1,if_neg h2,if_neg om,if_neg om]
structure BX(c:α->α->Int)(a i j:Nat)(xs:List α):Prop where
 others:∀(k l:Nat) (x y:α),a<=k->k<l->l<=i->k≠j->l≠j->xs[k]? =some x->xs[l]? =some y->c x y<=0
 behind:∀(l:Nat) (x y:α),j<l->l<=i->xs[j]? =some x->xs[l]? =some y->c x y<=0
def Rf{a i:Nat}{xs:List α}(h:BW c a i xs):BX c a i i xs:=⟨λk l x y h1 h2 h3 h4 b=>h k l x y h1 h2 om,λl x y h1 h2=>om⟩
def BX.step(h:BZ c){a i:Nat}{xs:List α}{x y:α}(e:BX c a i (j+1) xs)(hj:a<=j)(X:j+1<=i)(e1:xs[j]? =some x)(f:xs[j+1]? =some y)(hlt:c y x<0):BX c a i j (sw xs j x y):=by
 refine⟨λk l u v h1 h2 h3 h4 m b ev=> ?_,λl u v h1 h2 b ev=> ?_⟩
 ·rw[U7 e1 f]at b ev;rw[if_neg h4]at b;rw[if_neg m]at ev;by_cases g:k=j+1
  ·rw[if_pos g]at b;cases b;rw[if_neg om]at ev;exact e.others j l x v om om h3 om om e1 ev
  ·rw[if_neg g]at b;by_cases d:l=j+1
   ·rw[if_pos d]at ev;cases ev;exact e.others k j u x h1 om om om om b e1
   ·rw[if_neg d]at ev;exact e.others k l u v h1 h2 h3 om om b ev
 ·rw[U7 e1 f]at b ev;rw[if_pos rfl]at b;cases b;rw[if_neg om]at ev;by_cases d:l=j+1
  ·rw[if_pos d]at ev;cases ev;omega
  ·rw[if_neg d]at ev;exact e.behind l y v om h2 f ev
def BX.stop(h:BZ c){a i:Nat}{xs:List α}(e:BX c a i j xs)(hj:a<=j)(X:j<=i)(m:i<xs.length)(hs:a<j->∀x y,xs[j-1]? =some x->xs[j]? =some y->¬c y x<0):BW c a (i+1) xs:=by
 intro k l u v h1 h2 h3 d ev;by_cases f:k=j
 ·subst f;exact e.behind l u v h2 om d ev
 ·by_cases g:l=j
  ·subst g;have b:l-1<xs.length:=om
   have o:=hs om _ _ (List.getElem?_eq_getElem b) ev;have p:=h.bm v xs[l-1];by_cases n:k=l-1
   ·subst n;rw[List.getElem?_eq_getElem b]at d;cases d;omega
   ·have:=e.others k (l-1) u _ h1 om om f om d (List.getElem?_eq_getElem b);exact h.tr _ _ _ this om
  ·exact e.others k l u v h1 h2 om f g d ev
end
structure A4 where
 path:Ac
 e:Int
def A4.C(a:A4):AV := .agg [Ac.C a.path, .int .i64 a.e]
def VT(a b:A4):Int:=kM a.path b.path
theorem A4.K(a:A4):a.C.K=true:=by simp[A4.C,AV.K,aB,Ac.C,dK]
theorem nU(l:List A4):aB (l.map A4.C)=true:=bF A4.K l
theorem E7(n m:Nat)(l:List A4):aE n m (l.map A4.C)=true:=aC n m _ (nU l)
def fcl:AV := .fn (.func 71) [] []
def TO(a b:A4):AN prog 71 [a.C,b.C] (.int .i64 (VT a b)):=by
 refine FB (b:=a.path.length<=9223372036854775807) ⟨_,func71,rfl,rfl⟩ (by simp[aB,A4.K]) ?_ (λhb=> ?_)
 ·rintro g w vs ⟨v,C, -, ⟨cs, -, hl, -⟩, -⟩;obtain⟨e,d, -, h1, -⟩:=hl;have:=I6 h1;simp[maxLen]at this;omega
 ·refine pEn 4 func71 (ha:=by simp[aB,A4.K]) ?_;have c:=KH a.path b.path hb
  repeat' first|refine dB ?_|refine .s1 ?_|(refine .q ?_ ?_<;>intro O)|refine aH c ?_|fail
  exact bW
end Go.Proofs.YtdodieljpcfpcaaGreatDoor
