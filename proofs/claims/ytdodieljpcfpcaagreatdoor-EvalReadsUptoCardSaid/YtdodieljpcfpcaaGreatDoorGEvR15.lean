/- Joined texts. -/
import Derived.Lib.TrimUEq
import Derived.Lib.ValidLaws
import Derived.Lib.ParseIntB
import Derived.Test.YtdodieljpcfpcaaGreatDoorGEvR12
set_option maxRecDepth 100000
set_option maxHeartbeats 16000000
set_option linter.all false
open List (drop_eq_nil_of_le length_append length_drop length_map map_append map_cons map_nil)
open Nat (le_refl)
open Bool (and_eq_true)
open Go Go.Av Go.Proofs.YtdodieljpcfpcaaGreatDoor Go.Proofs.Tryz
variable{γ:Type}{l:AF}{z0:AV}{a:Int}{xs:List AV}{T':List Tok}{i k:Nat}{Q:Nat->Nat}{σ':St}
namespace Go.Proofs.YtdodieljpcfpcaaGreatDoor
open Go Go.Av Go.Proofs.Tryz
attribute [local irreducible] AB AD AN AQ Av.AS AZ
def Flts.C(l:List A4):AV := .slice (l.map A4.C) .no
theorem Flts.K(l:List A4):(Flts.C l).K=true:=by simp[Flts.C,AV.K,nU]
theorem H5{a n:Nat}:∀(xs ys:List AV),aE a n (xs++ys)=(aE a n xs&&aE a n ys)
 |[],ys=>by simp[aE]
 |x::xs,ys=>by rw[List.cons_append,aE,aE,H5 xs ys,Bool.and_assoc]
def Py(l:Ac)(h:l.length<=1048576):AN prog 69 [Ac.C l] (Ac.C l):=by
 refine pEn 2 func69 (O:=by simp[AV.K,Ac.C,dK]) (ha:=by simp[AV.K,aB,Ac.C,dK]) ?_;have hl:(l.map AS.C).length=l.length:=length_map ..
 refine tC 0 rfl (λhn=> ?_) ?_
 ·repeat' first|refine .seq ?_|refine .rg ?_|refine .rd ?_|refine .block ?_|refine .scope ?_|refine .skip ?_|refine .label ?_|refine .exit ?_|refine .ret ?_|refine .ct ?_|refine .cf ?_|refine .cy ?_|refine .cn ?_|(refine .cond rfl ?_ ?_<;>intro O)|refine cS ?_|refine .nl ?_|refine .dd ?_|refine .ys ?_|refine .no ?_|(refine fL rfl ?_ ?_<;>intro O)|refine .lb ?_|refine .ln ?_|refine .ls ?_|refine .pv ?_|refine .ix ?_|refine .pt ?_|refine .pf ?_|refine .bx ?_|refine .al ?_|refine .st ?_|refine .ad ?_|refine .sb ?_|refine .mf ?_|refine .cl ?_|refine .cw ?_|refine .ck ?_|refine I4 rfl rfl rfl ?_|fail
  exact aP rfl (AC.no (AA.eq hn.symm))
 ·repeat' first|refine .seq ?_|refine .rg ?_|refine .rd ?_|refine .block ?_|refine .scope ?_|refine .skip ?_|refine .label ?_|refine .exit ?_|refine .ret ?_|refine .ct ?_|refine .cf ?_|refine .cy ?_|refine .cn ?_|(refine .cond rfl ?_ ?_<;>intro O)|refine cS ?_|refine .nl ?_|refine .dd ?_|refine .ys ?_|refine .no ?_|(refine fL rfl ?_ ?_<;>intro O)|refine .lb ?_|refine .ln ?_|refine .ls ?_|refine .pv ?_|refine .ix ?_|refine .pt ?_|refine .pf ?_|refine .bx ?_|refine .al ?_|refine .st ?_|refine .ad ?_|refine .sb ?_|refine .mf ?_|refine .cl ?_|refine .cw ?_|refine .ck ?_|refine Fw rfl rfl rfl ?_|refine sZ (n:=0) rfl rfl rfl rfl rfl rfl rfl rfl rfl rfl (G3 l) Wl om rfl ?_|fail
  exact aP rfl (AC.no (AA.eq (List.nil_append _)))
theorem Mv{β:Type}(f:γ->β){l:List γ}{k:Nat}(h:k<l.length):(l.take k).map f++[f l[k]]=(l.take (k+1)).map f:=Xf
def Rh(f:A0):A4:=⟨f.path,f.e⟩
theorem Mw(l:List A0):l.map A0.C=(l.map Rh).map A4.C:=by rw[List.map_map];rfl
attribute [local irreducible] CA
def aCG:AV := .iface 276 (.agg [])
def Jq(l:List AY)(H:St):CA prog 121 [.ab (Tbls.C l), .ptr 0 0, .ptr 1 0, .ptr 2 0] none H H:=by
 refine CA.enter func121 rfl rfl rfl rfl rfl rfl rfl (λx h=>Wu) ?_
 repeat' first|refine .s1 ?_|(refine .q ?_ ?_<;>intro O)|refine NI rfl rfl rfl rfl ?_|fail
 exact⟨.inl rfl,rfl⟩
def Ri(l:List AY)(hf:BM 1048576 l)(o e:AV)(vs:List AV)(hv:vs=[.int .i64 0, .int .i64 0, .str [], .slice [] .nil, .slice [] .nil]):
  CA prog 121 [.ab (Tbls.C l), .ptr 0 0, .ptr 1 0, .ptr 2 0] (some aCG) ⟨[.cells [o], .cells vs, .cells [e]],[]⟩ ⟨[.cells [Tbls.C l], .cells fI, .cells [.int .i64 11]],[]⟩:=by
 subst hv;have ht:=OK l hf.len hf.af hf.aq;refine CA.enter func121 rfl rfl rfl rfl rfl rfl rfl (λx h=>by cases h;exact⟨_,_,rfl⟩) ?_
 repeat' first|refine .s1 ?_|(refine .q ?_ ?_<;>intro O)|refine NI rfl rfl rfl rfl ?_|refine aH ht ?_|fail
 exact⟨.inl rfl,rfl⟩
def aCH(l:List AY)(c:BH){B:Nat}(hf:BM B l)(g:B+c.args.length+1<=1048576):
  AN prog 67 [Tbls.C l,c.C] (.tup [Tbls.C (gI l c).1,(gI l c).2.1.C, .int .i64 (gI l c).2.2]):=by
 have a:BM 1048576 l:=hf.le om;have ht:=OK l a.len a.af a.aq;refine AQ.plain uM Xv (O8 [.cell 4 30, .cell 5 43, .cell 6 74] func67 rfl rfl rfl rfl rfl rfl ?_)
 repeat' first|refine dB ?_|refine .s1 ?_|(refine .q ?_ ?_<;>intro O)|fail|fail
 refine⟨rfl,_,rfl,(Jq l ⟨[],[]⟩).c1,λD=> ?_⟩;by_cases hb:(c.name==lD)=true
 ·have d:=aAn l c (by simpa using hb);have hk:uK c.name=true:=by rw[show c.name=lD by simpa using hb];rfl
  have e:gI l c=(l,bO,11):=by unfold gI;rw[hk,hb];rfl
  rw[e]
  repeat' first|refine .s1 ?_|(refine .q ?_ ?_<;>intro O)|refine Tq rfl d (aD _) ?_|fail
  exact⟨_,Ri l a _ _ _ rfl,_,rfl,_,rfl,qE⟩
 ·have hb': (c.name==lD)=false:=by simpa using hb
  have b:=doF l c hb' hf g;by_cases he:(gI l c).2.2=0
  ·have f:((gI l c).2.2 != 0)=false:=by rw[he];rfl
   repeat' first|refine .s1 ?_|(refine .q ?_ ?_<;>intro O)|refine aH b ?_|fail
   exact⟨_,Jq l _,_,rfl,_,rfl,aG _⟩
  ·have f:=bnT he;have e1:=Lu l c he
   repeat' first|refine .s1 ?_|(refine .q ?_ ?_<;>intro O)|refine aH b ?_|refine aH ht ?_|fail
   refine⟨_,Jq l _,_,rfl,_,rfl, ?_⟩;rw[e1];exact aG _
end Go.Proofs.YtdodieljpcfpcaaGreatDoor
namespace Go.Av
open Go
def KK[AK]{H:St}{k i:Nat}{ys:List AV}{t0 m:Tk}{T1 T': List Tok}(hT:H.T[k]? =some (.Y xs))(X:xs[i]? =some (.slice ys t0))(h:AJ H (.slice ys t0) ⟨H.B,T1⟩ (.slice ys m))(x:T1[k]? =some (.Y xs))(hT': j5 k (.Y (xs.set i (.slice ys m))) T1 some=some T'):
  AJ H z0 ⟨H.B,T'⟩ z0:=λg w v o hr=>by
 obtain⟨kl,y⟩:=d6 _ _ _ _ _ hT'
 have a0:k<g.tk.length:=by rw[o.lenT];exact(List.getElem?_eq_some_iff.1 hT).1
 have f:g.tk[k]? =some g.tk[k]:=List.getElem?_eq_getElem a0
 obtain⟨t1,t2,t3,Vs,t4,t5,t6,t7⟩:=o.tok k _ _ f hT
 obtain⟨V,hV,l⟩:=t4.get X
 obtain⟨g1,e1,b,r1⟩:=h g w V o l
 refine⟨g1,e1, ?_,Ab.mono e1.le _ _ hr⟩
 rw[<-Option.some.inj y]
 refine⟨b.lenB,by simpa using b.lenT,b.ob,b.nodup,b.noim,λj t r hj ht=> ?_,b.tkz,b.tkd,b.imlt,b.gl⟩
 by_cases e:j=k
 ·subst e
  simp only[List.getElem?_set_self kl,Option.some.injEq]at ht
  subst ht
  obtain⟨s1,s2,s3,Ws,n,s5,s6,s7⟩:=b.tok j _ r hj x
  have hsame:∀(p:Addr),r.base=some p->Ws[i]? =some V:=by
   intro p hp
   obtain⟨r', d,hh⟩:=e1.le.tk j _ f
   rw[hj]at d
   cases d
   have a3:r=g.tk[j]:=by
    rcases hh with h|h
    ·exact h
    ·have h1:=h.1
     have hl:=t1
     have hs:=s1
     omega
   subst a3
   have c:i<Ws.length:=by rw[n.length];exact(List.getElem?_eq_some_iff.1 X).1
   obtain⟨m1,m2⟩:=(t7 p hp).2 i _ hV
   obtain⟨n1,n2⟩:=(s7 p hp).2 i _ (List.getElem?_eq_getElem c)
   obtain⟨W,hW,u⟩:=n.get X
   rw[List.getElem?_eq_getElem c]at hW
   cases hW
   obtain⟨a,cap,sz,us,a5,_⟩:=u
   obtain⟨a', a7,am,ap,a4,_⟩:=l
   rw[List.getElem?_eq_getElem c]
   have a1:=(m2 0 V YT).2.1
   have a2:=(n2 0 Ws[i] (by rw[a5];rfl)).2.1
   rw[a1]at a2
   exact a2.symm
  cases hb:r.base with
  |none=>
   have:=s5 hb
   subst this
   have h0:=n.length
   have:i<xs.length:=(List.getElem?_eq_some_iff.1 X).1
   simp at h0
   omega
  |some p=>
   have z:=hsame p hb
   refine⟨by simpa using s1,s2,s3,Ws, ?_,(λh=>by rw[hb]at h;cases h),s6,λq hq=> ?_⟩
   ·have:=n.set i r1
    rwa [rS z]at this
   ·rw[hb]at hq
    cases hq
    exact s7 p hb
 ·rw[List.getElem?_set_ne (Ne.symm e)]at ht
  exact b.tok j t r hj ht
end Go.Av
namespace Go.Proofs.YtdodieljpcfpcaaGreatDoor
open Go Go.Av Go.Proofs.Tryz
attribute [local irreducible] AB AD AN AQ Av.AS AZ
def doR(X:List AV)(L:List AY)(c:BH)(n:Nat)(g:X.length=n)(hn:n<=1048576)(a:aB X=true)(f:AN prog 67 [Tbls.C L,c.C] (.tup [Tbls.C (gI L c).1,(gI L c).2.1.C, .int .i64 (gI L c).2.2])):
  AQ prog 29 [.ptr 0 0,c.C] ⟨[.cells [Tbls.C L, .Y 0 1 n 0 n]],[.Y X]⟩
   (λe σ'=> e = .ret (.tup [(gI L c).2.1.C, .int .i64 (gI L c).2.2])/\σ'= ⟨[.cells [Tbls.C (gI L c).1, .Y 0 1 (n+1) 0 (n+1)]],[.Y (X++[.slice [] .nil])]⟩):=by
 have b:aE 1 1 (X++[.slice [] .nil])=true:=by rw[oI,aC _ _ _ a];rfl
 refine gM (nB:=1) (mT:=1) (wA [.cell 4 43, .tmp 5] func29 ?_) (aF _ _ _ (by simp[AV.K,aB,AH.K])) Zn (by simp[-List.cons_append,aL,Tok.aa,b]);generalize gI L c=r at *
 repeat' first|refine .br ?_|refine bH (d:=7) ?_|refine .s1 ?_|(refine .q ?_ ?_<;>intro O)|refine aH f ?_|refine bZ ?_|refine fY rfl ?_|refine aX (agg:=true) ?_|refine fF (hn:=by exact rfl) (hy:=by exact rfl) ?_|refine eI (m:=n+1) (hb':= by omega) g ?_|fail
 exact⟨_,rfl,_,_,rfl,eU _ _,rfl,rfl⟩
end Go.Proofs.YtdodieljpcfpcaaGreatDoor
namespace Go.Av
open Go
def Rj[AK]{P:Program}{H:St}(hT': kU H.T (.len 0) some=some T'):AJ H z0 ⟨H.B,T'⟩ z0:=λg w v b hr=>by
 obtain⟨g', e1,a,_⟩:=rO (H:=H) (agg:=true) (z:=1) (t := .nil) (xs:=[]) rfl rfl b (u := .slice none 0 0) ⟨none,0,0,[],rfl,le_refl _,Nat.zero_le _,⟨rfl,rfl⟩,rfl,λ_=>⟨rfl,rfl⟩,λp h=>Wu⟩
 refine⟨g', e1, ?_,Ab.mono e1.le _ _ hr⟩
 rw[<-Option.some.inj (eX _ _ _ _ hT')];exact a
end Go.Av
namespace Go.Proofs.YtdodieljpcfpcaaGreatDoor
open Go Go.Av Go.Proofs.Tryz
attribute [local irreducible] AB AD AN AQ Av.AS AZ
def Mx(s:AI)(d:AR)(A:List AG)(tb:AF)(w:List Sl)(v:AH)(hv:v.kind=0)(t:Ae)(p:Ac)(st:AT)(g:Bool)(ht:t.name.length<=68719476736)(f:isT t=false){t0 t1 t2:Tok}(hl:aL 2 4 [t0,t1,t2, .Y [(mS false bO).aj]]=true):
  AQ prog 65 [.ptr 0 0, .an 3 10 1 0 0,t.C,v.C,jR .nilp tb [] ⟨[],0,0⟩ w p] ⟨evB s d A st,[t0,t1,t2, .Y [knG 0 g]]⟩ (λe σ'=> e = .ret (.tup [])/\σ'= ⟨evB s d A st,[t0,t1,t2, .Y [(mS false bO).aj]]⟩):=by
 have b:=wIs t om;have c:=Sw t om;refine gM (nB:=2) (mT:=4) (cK [] func65 ?_) rfl (cM _ _ _ _ _ om) hl;have h:(v.kind==0)=true:=by rw[hv];rfl
 unfold evB;rw[f]at b;have a:∀(x:List Ob),_:=λ(x:List Ob)=>Nj s d A rdV lyV (.cells (lG st.L st.R.length)::x) [t0,t1,t2, .Y [knG 0 false]] st.F 3 p rfl
 repeat' first|refine AD.bx (v := .agg [_,_,_,_,_,_,_,_]) ?_|refine .br ?_|refine .s1 ?_|(refine .q ?_ ?_<;>intro O)|refine bZ ?_|refine fY rfl ?_|refine aX (agg:=true) ?_|refine dR (a _) ?_|fail
 exact⟨_,_,rfl,eP (k:=3) rfl (iQ 0 false _ _ _ _) rfl,rfl,rfl⟩
def Bm(pl:Pl):Prop:=∀u row w p m st,(pl u row w p m st).1.cnt+2 * st.c<=2 * (pl u row w p m st).2.c
def tV(m:Bool)(st a:AT)(h:a.c=st.c+1):(nC m).cnt+2 * st.c<=2 * a.c:=by
 have:(nC m).cnt=1:=by unfold nC;rw[Nd.cnt,jB];rfl
 omega
def Gd(m:Bool)(v:AH)(st a:AT)(h:a.c=st.c+1):(mS m v).cnt+2 * st.c<=2 * a.c:=by
 have:(mS m v).cnt=1:=by unfold mS;rw[Nd.cnt,jB];rfl
 omega
mutual
theorem Ge(s:AI)(pl:Pl)(hpl:Bm pl)(tb:AF)(w:List Sl):∀(v:AH) (t:Ae) (p:Ac) (st:AT),(dL s pl tb w v t p st).1.cnt+2 * st.c<=2 * (dL s pl tb w v t p st).2.c
 | .mk k n str l m,t,p,st=>by
  rw[dL]
  dsimp only
  split
  ·split
   ·exact tV _ _ _ rfl
   ·exact Gd _ _ _ _ rfl
  split
  ·split
   ·exact tV _ _ _ rfl
   ·have h:=Gf s pl hpl tb w l (b7 t) p 0 st.ag
    have e:st.ag.c=st.c+1:=rfl
    rw[Nd.cnt,List.length_nil]
    dsimp only
    omega
  split
  ·split
   ·exact tV _ _ _ rfl
   ·exact Gd _ _ _ _ rfl
  split
  ·exact tV _ _ _ rfl
  unfold w9
  split
  ·exact tV _ _ _ rfl
  split
  ·split
   ·exact tV _ _ _ rfl
   ·exact Gd _ _ _ _ rfl
  split
  ·exact tV _ _ _ rfl
  ·have h:=hpl (cN st.ag.L ⟨tb,str⟩).row.av (cN st.ag.L ⟨tb,str⟩).row w p (isT t) (st.ag.read ⟨tb,str⟩)
   have e:(st.ag.read ⟨tb,str⟩).c=st.c+1:=rfl
   omega
theorem Gf(s:AI)(pl:Pl)(hpl:Bm pl)(tb:AF)(w:List Sl):∀(l:List AH) (t:Ae) (p:Ac) (i:Nat) (st:AT),jB (cD s pl tb w l t p i st).1+2 * st.c<=2 * (cD s pl tb w l t p i st).2.c
 |[],_,_,_,st=>by rw[cD,jB];dsimp only;omega
 |v::l,t,p,i,st=>by
  rw[cD]
  dsimp only
  rw[jB]
  have h1:=Ge s pl hpl tb w v t (p++[⟨[],i⟩]) st
  have h2:=Gf s pl hpl tb w l t p (i+1) (dL s pl tb w v t (p++[⟨[],i⟩]) st).2
  omega
end
def Gg(s:AI)(d:AR)(A:List AG)(pl:Pl)(hpl:Bm pl)(f:Bool)(u:AF)(row:Row)(g:AW)(p:Ac)(st:AT):(cA s d A pl f u row g p st).1.cnt+1+2 * st.c<=2 * (cA s d A pl f u row g p st).2.c:=by
 have b:∀(m:Bool) (a:AT),a.c=st.c+1->(nC m).cnt+1+2 * st.c<=2 * a.c:=λm a h=>by
  have:(nC m).cnt=1:=by unfold nC;rw[Nd.cnt,jB];rfl
  omega
 have j:∀(m:Bool) (v:AH) (a:AT),a.c=st.c+1->(mS m v).cnt+1+2 * st.c<=2 * a.c:=λm v a h=>by
  have:(mS m v).cnt=1:=by unfold mS;rw[Nd.cnt,jB];rfl
  omega
 have i:∀tb w v t p (e:AT),e.c=st.c+1->(dL s pl tb w v t p e).1.cnt+1+2 * st.c<=2 * (dL s pl tb w v t p e).2.c:=λtb w v t p e h=>by have:=Ge s pl hpl tb w v t p e;omega
 unfold cA;dsimp only;split
 ·exact j _ _ _ rfl
 split
 ·exact b _ _ rfl
 split
 ·split
  ·split
   ·exact b _ _ rfl
   ·exact i _ _ _ _ _ _ rfl
  ·exact b _ _ rfl
 ·exact i _ _ _ _ _ _ rfl
def H6{α:Type}(a:α->AT->Nd×AT)(hf:∀g st,(a g st).1.cnt+1+2 * st.c<=2 * (a g st).2.c):∀(l:List α) (st:AT),jB (bX a l st).1+l.length+2 * st.c<=2 * (bX a l st).2.c
 |[],st=>by rw[bX,jB];simp
 |g::l,st=>by
  have h1:=hf g st
  have h2:=H6 a hf l (a g st).2
  rw[bX]
  dsimp only
  rw[jB,List.length_cons]
  omega
def zF(s:AI)(d:AR)(A:List AG)(pl:Pl)(hpl:Bm pl)(a:Bool)(u:AF)(row:Row)(w:List Sl)(p:Ac)(m:Bool)(st:AT)(b:AW->AT->Nd×AT)(f:∀g st,b g st=cA s d A pl a u row g (p++[⟨g.key,0⟩]) st):
  (Nd.mk 2 m bO ((bG s d A u w).map AW.key) (bX b (bG s d A u w) st.ag).1).cnt+2 * st.c<=2 * (bX b (bG s d A u w) st.ag).2.c:=by have h:=H6 b (λg st=>by rw[f];exact Gg s d A pl hpl a u row g _ st) (bG s d A u w) st.ag;have e:st.ag.c=st.c+1:=rfl;rw[Nd.cnt,length_map];omega
def mD(s:AI)(d:AR)(A:List AG):∀n:Nat,Bm (bV s d A n false)
 |0=>λu row w p m st=>by
  have e1:(bV s d A 0 false u row w p m st).1.cnt=1:=by
   rw[bV];dsimp only;rw[Nd.cnt,jB];rfl
  have a:(bV s d A 0 false u row w p m st).2.c=st.c+1000000000:=rfl
  omega
 |n+1=>λu row w p m st=>zF s d A _ (mD s d A n) false u row w p m st _ (λ_ _=>rfl)
def wkR(s:AI)(d:AR)(A:List AG)(F:List A0):List AV:=
 [.slice (s.ah.map Ag.C) .no, .str s.query, .str s.ar, .slice (d.ops.map Aj.C) .no, .slice (d.ai.map Af.C) .no, .slice (A.map AG.C) .no, .fn (.func 21) [] [.ab (.ptr 2 0), .ab (.ptr 1 0)], .fn (.func 24) [.ptr 2 0] [], .slice (F.map A0.C) (.own 2 2)]
def rnR(L:List AY)(n:Nat):List AV:=[Tbls.C L, .Y 4 1 n 0 n]
def knR(ks:List AF)(xs:List AV):AV := .agg [.int .i64 2, .bool false, .int .i64 0, .int .i64 0, .str [], .slice [] .nil, .slice [] .nil, .slice (ks.map AV.str) (.own 6 1), .slice [] .nil, .slice xs (.own 7 1)]
def Rk(s:AI)(d:AR)(A:List AG)(F:List A0){N:Nat->Nat}(h0:Q 0=2)(h1:Q 1=1)(g0:N 0=2):(Ob.cells (rJ s d A rdV lyV F)).ae Q N = .cells (wkR s d A F):=by have hF:aB (F.map A0.C)=true:=bF (λf=>WZ) F;simp only[Ob.ae,rJ,wkR,rdV,lyV,aW,AV.ae,Tk.ae,h0,h1,g0,aS _ _ _ (dS _),aS _ _ _ (mB _),aS _ _ _ (jX _),aS _ _ _ (aT _),aS _ _ _ hF]
def Rl(L:List AY)(n:Nat){N:Nat->Nat}(a:N 1=4):(Ob.cells (lG L n)).ae Q N = .cells (rnR L n):=by simp only[Ob.ae,lG,rnR,aW,AV.ae,a,cV _ _ _ (Tbls.K L)]
theorem wE(l:List Aa):aB (l.map Aa.C)=true:=bF Aa.K l
theorem zG{Q N:Nat->Nat}{j:Nat}(a:N 2=j):∀R:List (List Aa),aW Q N (kO R)=rdJ j R
 |[]=>rfl
 |[r]=>by simp only[kO,rdJ,aW,AV.ae,Tk.ae,a,aS _ _ _ (wE r)]
 |r::q::l=>by
  rw[kO,rdJ,aW,zG a (q::l)]
  simp only[AV.ae,Tk.ae,aS _ _ _ (wE r)]
def Jr{N:Nat->Nat}(b:N 4=6)(c:N 5=7)(a:List AF)(xs:List Nd):aW Q N [knP false a (xs.map λy => .ab y.aj)]=[knR a (xs.map λy => .ab y.aj)]:=by simp only[knP,knR,aW,AV.ae,Tk.ae,b,c,aS _ _ _ (aR a),aS _ _ _ (gX xs)]
def Cq(x0 x3:Ob)(s:AI)(d:AR)(A:List AG)(st:AT):List Ob:=[x0, .cells (rnR st.L st.R.length), .cells (wkR s d A st.F),x3]
def DL(st:AT)(kn:AV)(a b:Nat):List Tok:=[.len 2, .len 2, .len st.F.length, .Y [kn], .Y (rdJ 5 st.R), .len (eF st.R).length, .len a, .len b]
def E8{nB:Nat}(h:3<=nB):Bo nB [2,1]:=⟨Wc,λi X=>Yf⟩
def Ez(v:AH)(F:List A0)(R:List (List Aa))(L:List AY):AV := .agg [.int .i64 v.kind, .int .i64 v.n, .str v.s, .slice v.lv .no, .slice v.mv .no, .slice (F.map A0.C) .no, .slice (kI R) .no,Tbls.C L]
def mvT(st:AT):List Tok:=[.len st.F.length, .Y (kI st.R), .len 0]
theorem gZ(R:List (List Aa)):aB (kI R)=true:=bF (λr=>by simp[AV.K,qF]) R
theorem oD(R:List (List Aa)):(kI R).length=R.length:=length_map _
theorem qQ(n m:Nat)(st:AT):aL n m (mvT st)=true:=by simp[mvT,aL,Tok.aa,aC _ _ _ (gZ _)]
theorem tW:∀R:List (List Aa),eF (R++[[]])=[]
 |[]=>rfl
 |[r]=>rfl
 |r::q::l=>tW (q::l)
def Rm{H:St}{R:List (List Aa)}{J:Nat}(hT:H.T[1]? =some (.Y (kI R++[.slice [] .nil])))(a:dM H.T=some J)(hT': kU (H.T.set 1 (.Y (rdJ J (R++[[]])))) (.len 0) some=some T'):AJ H z0 ⟨H.B,T'⟩ z0:=by
 have hl:=(List.getElem?_eq_some_iff.1 hT).1;have X:(kI R++[.slice [] .nil])[R.length]? =some (AV.slice [] .nil):=by rw[List.getElem?_append_right (by rw[oD];exact le_refl _),oD,Nat.sub_self];rfl
 have hs:(kI R++[AV.slice [] .nil]).set R.length (.slice [] (.own J 2))=rdJ J (R++[[]]):=by rw[KF,List.set_append_right _ _ (by rw[oD];exact le_refl _),oD,Nat.sub_self];rfl
 refine KK (k:=1) (i:=R.length) (T1:=H.T++[.len 0]) hT X (lF (k:=J) (z:=2) rfl a (oN _ _ _)) (by rw[List.getElem?_append_left hl];exact hT) ?_;rw[hs,gN Yt, <-hT', oN,List.set_append_left _ _ hl]
theorem U8{L:List AY}{n:Nat}{N:Nat->Nat}(g:N 0=1):(Ob.cells [Tbls.C L, .Y 0 1 n 0 n]).ae Q N = .cells (lG L n):=by simp only[Ob.ae,lG,aW,AV.ae,g,cV _ _ _ (Tbls.K L)]
def Ro{B:List Ob}{L:List AY}{n:Nat}(h1:B[1]? =some (.cells (lG L n))){N:Nat->Nat}(g:N 0=1):
  ∀(k i:Nat) (ob:Ob),([1]:List Nat)[k]? =some i->([.cells [Tbls.C L, .Y 0 1 n 0 n]]:List Ob)[k]? =some ob->B[i]? =some (ob.ae Q N)
 |0,i,ob,h,a=>by
  cases h;cases a;rw[h1,U8 g]
 |k+1,i,ob,h,a=>Wu
def Rp{T:List Tok}{X:List AV}(h1:T[1]? =some (.Y X))(a:aB X=true){N:Nat->Nat}:
  ∀(k i:Nat) (t:Tok),([1]:List Nat)[k]? =some i->([.Y X]:List Tok)[k]? =some t->T[i]? =some (t.ae Q N)
 |0,i,t,h,ht=>by
  cases h;cases ht;rw[h1];simp only[Tok.ae,aS _ _ _ a]
 |k+1,i,t,h,ht=>Wu
def U9(a b:Ob)(r:List Ob)(L:List AY)(n:Nat){N:Nat->Nat}(g:N 0=1):fA (a::b::r) [1] (([.cells [Tbls.C L, .Y 0 1 n 0 n]]:List Ob).map (Ob.ae Q N))=a :: .cells (lG L n)::r:=by have e:=U8 (L:=L) (n:=n) (Q:=Q) g;show (a::(Ob.cells [Tbls.C L, .Y 0 1 n 0 n]).ae Q N::r)++[]=_;rw[e,List.append_nil]
def Va(a b:Tok)(r:List Tok)(X:List AV)(c:aB X=true){N:Nat->Nat}:fA (a::b::r) [1] (([.Y X]:List Tok).map (Tok.ae Q N))=a::Tok.Y X::r:=by show (a::Tok.Y (aW Q N X)::r)++[]=_;rw[aS _ _ _ c,List.append_nil]
theorem NX(s:AI)(d:AR)(A:List AG)(F:List A0){N:Nat->Nat}(h0:Q 0=0)(h1:Q 1=1)(g0:N 0=0):(Ob.cells (rJ s d A rdV lyV F)).ae Q N = .cells (rJ s d A rdV lyV F):=by have hF:aB (F.map A0.C)=true:=bF (λf=>WZ) F;simp only[Ob.ae,rJ,rdV,lyV,aW,AV.ae,Tk.ae,h0,h1,g0,aS _ _ _ (dS _),aS _ _ _ (mB _),aS _ _ _ (jX _),aS _ _ _ (aT _),aS _ _ _ hF]
theorem NY(L:List AY)(n:Nat){N:Nat->Nat}(a:N 1=1):(Ob.cells (lG L n)).ae Q N = .cells (lG L n):=by simp only[Ob.ae,lG,aW,AV.ae,a,cV _ _ _ (Tbls.K L)]
def VU(s:AI)(d:AR)(A:List AG)(st:AT){B:List Ob}(b:B[0]? =some (.cells (rJ s d A rdV lyV st.F)))(c:B[1]? =some (.cells (lG st.L st.R.length))){N:Nat->Nat}(h0:Q 0=0)(h1:Q 1=1)(g0:N 0=0)(e:N 1=1):
  ∀(k i:Nat) (ob:Ob),([0,1]:List Nat)[k]? =some i->(evB s d A st)[k]? =some ob->B[i]? =some (ob.ae Q N)
 |0,i,ob,h,a=>by
  cases h;cases a
  rw[b,NX s d A st.F h0 h1 g0]
 |1,i,ob,h,a=>by
  cases h;cases a
  rw[c,NY st.L st.R.length e]
 |k+2,i,ob,h,a=>Wu
def VV(st:AT)(a:AV)(hk:a.K=true)(hz:(eF st.R).length=0){T:List Tok}{j:Nat}(t0:T[0]? =some (.len st.F.length))(t1:T[1]? =some (.Y (rdJ j st.R)))(t2:T[j]? =some (.len 0))(c:T[6]? =some (.Y [a])){N:Nat->Nat}(b:N 2=j):
  ∀(k i:Nat) (t:Tok),([0,1,j,6]:List Nat)[k]? =some i->(evT st++[.Y [a]])[k]? =some t->T[i]? =some (t.ae Q N)
 |0,i,t,h,ht=>by cases h;cases ht;rw[t0];rfl
 |1,i,t,h,ht=>by
  cases h;cases ht
  rw[t1]
  exact congrArg (λx=>some (Tok.Y x)) (zG b st.R).symm
 |2,i,t,h,ht=>by cases h;cases ht;rw[t2,hz];rfl
 |3,i,t,h,ht=>by
  cases h;cases ht;rw[c]
  simp only[Tok.ae,aW,cV _ _ _ hk]
 |k+4,i,t,h,ht=>Wu
def aCI(s:AI)(d:AR)(A:List AG)(st:AT)(a b:Ob)(r:List Ob){N:Nat->Nat}(h0:Q 0=0)(h1:Q 1=1)(g0:N 0=0)(c:N 1=1):fA (a::b::r) [0,1] ((evB s d A st).map (Ob.ae Q N)) = .cells (rJ s d A rdV lyV st.F) :: .cells (lG st.L st.R.length)::r:=by show ((Ob.cells (rJ s d A rdV lyV st.F)).ae Q N::(Ob.cells (lG st.L st.R.length)).ae Q N::r)++[]=_;rw[NX s d A st.F h0 h1 g0,NY st.L st.R.length c,List.append_nil]
def aCJ(st:AT)(d:AV)(hk:d.K=true)(a b c e f g h i j:Tok){N:Nat->Nat}(k:N 2=8):fA [a,b,c,e,f,g,h,i,j] [0,1,8,6] ((evT st++[Tok.Y [d]]).map (Tok.ae Q N))=[.len st.F.length, .Y (rdJ 8 st.R),c,e,f,g, .Y [d],i, .len (eF st.R).length]:=by show [Tok.len st.F.length, .Y (aW Q N (kO st.R)),c,e,f,g, .Y (aW Q N [d]),i, .len (eF st.R).length]=_;rw[zG k,aW,aW,cV _ _ _ hk]
def H7:∀R:List (List Aa),AA (kI R++[.slice [] .nil]) (kI (R++[[]]))
 |[]=>AA.cons (AC.no (aD _)) (aD _)
 |r::R=>AA.cons (aG _) (H7 R)
def KL(st:AT)(p:Ac)(e:Int)(l:List Tok):Tok.len (st.F.length+1) :: .Y (kI st.R) :: .len 0::l=mvT (st.bad p e)++l:=by unfold mvT AT.bad;rw[length_append];rfl
def zH(st:AT)(L:List AY):AT:=⟨L,st.F,st.R++[[]],st.c+1⟩
def doV:AV := .fn (.func 29) [.ptr 1 0] []
abbrev H8(s:AI)(A:List AG)(u:AF)(x:Sl):List AG×Int:=dV s (aK s u x.name).1.params x.args A
abbrev EY(s:AI)(u:AF)(x:Sl):BQ:=(ofB s u (aK s u x.name).1).1
abbrev wF(s:AI)(A:List AG)(u:AF)(x:Sl):BH:=oZ (aK s u x.name).1 (EY s u x) (H8 s A u x).1
def TP(s:AI)(d:AR)(A:List AG)(Y:Am s d A)(pl:Pl)(u:AF)(row:Row)(hrow:row.aq.length<=1048576)(f:AF)(x:Sl)(C:List Sl)(l:List Sl)(p:Ac)(st:AT)(m:Bool)(h:List AF)(xs:List Nd)(hF:st.F.length<=4096)(hR:st.R.length<=1048576)(ak:x.ok/\x.size<=1048576)(bo:aA Sl.size (x::C)<=68719476736)(hp:p.length<=4096)
  (bt:h.length<=1048576) (bw:xs.length<=1048576)
  (hno:x.name≠bC->(H8 s A u x).2=0->(EY s u x).how≠3->(EY s u x).how≠2/\(iG row (EY s u x).col).kind=0/\isT (aK s u x.name).1.t=false)
  (a1:x.name≠bC->(H8 s A u x).2=0->(EY s u x).how=3->AN prog 67 [Tbls.C st.L,(wF s A u x).C] (.tup [Tbls.C (gI st.L (wF s A u x)).1,(gI st.L (wF s A u x)).2.1.C, .int .i64 (gI st.L (wF s A u x)).2.2]))
  (Df:x.name≠bC->(H8 s A u x).2=0->(EY s u x).how=3->(gI st.L (wF s A u x)).2.2=0->
   Bs s d A 65 [.ptr 0 0, .an 3 10 1 0 0,(aK s u x.name).1.t.C,(gI st.L (wF s A u x)).2.1.C,jR .nilp (EY s u x).table [] ⟨[],0,0⟩ (bM (x::C)) (p++[⟨f,0⟩])] (zH st (gI st.L (wF s A u x)).1) (knG 0 (isT (aK s u x.name).1.t))
    (dL s pl (EY s u x).table (bM (x::C)) (gI st.L (wF s A u x)).2.1 (aK s u x.name).1.t (p++[⟨f,0⟩]) (zH st (gI st.L (wF s A u x)).1))):
  AQ prog 28 [.ptr 0 0,plE (.an 3 10 1 0 0) u row l p,AW.C ⟨f,x::C⟩,doV] ⟨evB s d A st,mvT st++[.Y [knP m h (xs.map λy => .ab y.aj)], .len h.length, .len xs.length]⟩
   (λe σ'=> e = .ret (.tup [])/\σ'= ⟨evB s d A (cA s d A pl true u row ⟨f,x::C⟩ (p++[⟨f,0⟩]) st).2,mvT (cA s d A pl true u row ⟨f,x::C⟩ (p++[⟨f,0⟩]) st).2++
    [.Y [knP m (h++[f]) ((xs++[(cA s d A pl true u row ⟨f,x::C⟩ (p++[⟨f,0⟩]) st).1]).map λy => .ab y.aj)], .len (h.length+1), .len (xs.length+1)]⟩):=by
 have bv:=Y.hs;obtain⟨f1,f2⟩:=j4 Y.so u x.name;have bs:(aK s u x.name).1.size=(aK s u x.name).1.name.length+aA AO.size (aK s u x.name).1.params+(aK s u x.name).1.t.size+aA AM.size (aK s u x.name).1.ao+4:=rfl;have bq:(aK s u x.name).1.t.name.length<=(aK s u x.name).1.t.size:=Xu
 have a3:AQ prog 57 [.an 3 10 1 0 0, .str f] ⟨evB s d A st,mvT st++[.Y [knP m h (xs.map λy => .ab y.aj)], .len h.length, .len xs.length]⟩ (λe σ'=> e = .ret (.an 6 10 1 0 0)/\
   σ'= ⟨evB s d A st,mvT st++[.Y [.agg [.int .i64 2, .bool m, .int .i64 0, .int .i64 0, .str [], .slice [] .nil, .slice [] .nil, .slice (h.map AV.str++[.str f]) (.own 4 1), .slice [] .nil, .slice ((xs.map λy => .ab y.aj)++[.an 6 10 1 0 0]) (.own 5 1)]], .len (h.length+1), .len (xs.length+1), .Y [kn0 false]]⟩):=
  U4 (length_map _) (length_map _) om om
 have bu:=aAp p ⟨f,0⟩ om;have g:=S9 s d A Y st u f x C ak.2 ak.1 (qQ 2 3 st);have hI:=wIs (aK s u x.name).1.t om;have hO:=bOf s u (aK s u x.name).1 om om;have hT:=Hv u;have bn:=S3 (x::C) om;have x0:(List.map Sl.C (x::C))[0]? =some x.C:=rfl;have b3:=cM s d A st 3 om;have t3:=qQ 2 3 st;have al:∀r:Nd×AT,AQ prog 28 [.ptr 0 0,plE (.an 3 10 1 0 0) u row l p,AW.C ⟨f,x::C⟩,doV] ⟨evB s d A st,mvT st++[.Y [knP m h (xs.map λy => .ab y.aj)], .len h.length, .len xs.length]⟩
   (λe ba=>∃v ab,e = .ret v/\AJ ba v ab (.tup [])/\ab.B.take 2=evB s d A r.2/\ab.T.take 6=mvT r.2++[.Y [knP m (h++[f]) ((xs++[r.1]).map λy => .ab y.aj)], .len (h.length+1), .len (xs.length+1)])-> 
   AQ prog 28 [.ptr 0 0,plE (.an 3 10 1 0 0) u row l p,AW.C ⟨f,x::C⟩,doV] ⟨evB s d A st,mvT st++[.Y [knP m h (xs.map λy => .ab y.aj)], .len h.length, .len xs.length]⟩
   (λe σ'=> e = .ret (.tup [])/\σ'= ⟨evB s d A r.2,mvT r.2++[.Y [knP m (h++[f]) ((xs++[r.1]).map λy => .ab y.aj)], .len (h.length+1), .len (xs.length+1)]⟩):=λr hr=>by
  have ax:aE 2 6 ((xs++[r.1]).map λy => .ab y.aj)=true:=aC _ _ _ (gX _);have ay:aE 2 6 ((h++[f]).map AV.str)=true:=aC _ _ _ (aR _);refine gM (nB:=2) (mT:=6) hr rfl (cM _ _ _ _ _ om) ?_;rw[iE,qQ];simp only[aL,Tok.aa,aE,AV.aa,knP,ax,ay];rfl
 refine al _ (cK [] func28 ?_);have a2:aE 2 3 [.ptr 0 0, .str u,AW.C ⟨f,x::C⟩]=true:=by have:=aF 2 3 _ (AW.K ⟨f,x::C⟩);rw[aE,aE,aE,this];rfl
 unfold cA doV;dsimp only[List.headD];by_cases z:x.name=bC
 ·have e1:=beT z;unfold bC at e1;rw[if_pos z,if_pos z]at g;rw[if_pos z];generalize aK s u x.name=fr at *
  have w:(AV.tup [fr.1.C, .slice (([]:List AG).map AG.C) .no, .int .i64 0]).aa 2 3=true:=aF _ _ _ (by simp[AV.K,aB,Ah.K])
  repeat' first|refine .br ?_|refine .s1 ?_|(refine .q ?_ ?_<;>intro O)|refine dR a3 ?_|refine fY rfl ?_|refine iL (B0:=evB s d A st) (B1:=evB s d A st) (T0:=mvT st) (T1:=mvT st) (B:=[]) (T:=[_,_,_,_]) rfl g rfl (.inl rfl) (.inr rfl) (le_refl _) (le_refl _) b3 t3 b3 t3 a2 w (aD _) ?_|refine aX (agg:=true) ?_|fail
  refine⟨_,_,rfl,AJ.trans (eP (k:=6) rfl (Je 0 (isT fr.1.t) (jJ u) _ _) rfl) (cU (k:=3) (i:=0) (c:=9) rfl rfl rfl (nD (aY (k:=6) (n:=1) (j:=0))) rfl rfl),rfl, ?_⟩;simp only[knP,map_append,map_cons,map_nil];rfl
 have e1:=beF z;unfold bC at e1;rw[if_neg z,if_neg z]at g;rw[if_neg z];have w:(AV.tup [(aK s u x.name).1.C, .slice ((dV s (aK s u x.name).1.params x.args A).1.map AG.C) .no, .int .i64 (dV s (aK s u x.name).1.params x.args A).2]).aa 2 3=true:=aF _ _ _ XR;have bm:(dV s (aK s u x.name).1.params x.args A).1.length<=1048576:=by have h1:=tQ s true false A (lC s) (mkM s true A (cX s) x.args) (aK s u x.name).1.params;have h2:=aJ (size:=AO.size) AO.au (aK s u x.name).1.params;have h3:=F3 s u x.name;unfold dV;omega
 unfold EY H8 at hno;unfold wF EY H8 at a1 Df;generalize dV s (aK s u x.name).1.params x.args A=a at *
 generalize aK s u x.name=fr at *
 by_cases c2:a.2=0
 case neg=>
  have n2:=bnT c2;rw[if_pos c2];have a0:∀(x:List Ob) (e:Int),_:=λ(x:List Ob) (e:Int)=>JX s d A rdV lyV (.cells (lG st.L st.R.length)::x) (mvT st++[.Y [.agg [.int .i64 2, .bool m, .int .i64 0, .int .i64 0, .str [], .slice [] .nil, .slice [] .nil, .slice (h.map AV.str++[.str f]) (.own 4 1), .slice [] .nil, .slice ((xs.map λy => .ab y.aj)++[.an 6 10 1 0 0]) (.own 5 1)]], .len (h.length+1), .len (xs.length+1), .Y [knG 0 (isT fr.1.t)], .len 2]) st.F 6 (p++[⟨f,0⟩]) e rfl rfl Wc om
  repeat' first|refine .br ?_|refine bH (d:=13) ?_|refine bY 13 rfl (aY) ?_|refine .s1 ?_|(refine .q ?_ ?_<;>intro O)|refine dR a3 ?_|refine bZ ?_|refine fY rfl ?_|refine iL (B0:=evB s d A st) (B1:=evB s d A st) (T0:=mvT st) (T1:=mvT st) (B:=[]) (T:=[_,_,_,_]) rfl g rfl (.inl rfl) (.inr rfl) (le_refl _) (le_refl _) b3 t3 b3 t3 a2 w (aD _) ?_|refine dR (a0 _ _) ?_|refine aX (agg:=true) ?_|fail
  refine⟨_,_,rfl,AJ.trans (eP (k:=6) rfl (iQ 3 (isT fr.1.t) _ _ _ _) rfl) (cU (k:=3) (i:=0) (c:=9) rfl rfl rfl (nD (aY (k:=6) (n:=1) (j:=0))) rfl rfl),rfl, ?_⟩;simp only[knP,map_append,map_cons,map_nil];exact KL st.ag (p++[⟨f,0⟩]) a.2 _
 have n2:(a.2 != 0)=false:=by rw[c2];rfl
 rw[if_neg (by simp[c2])];have av:(ofB s u fr.1).2=false->(ofB s u fr.1).1=sJ:=λhb=>by
  unfold ofB at hb ⊢;split at hb
  ·cases hb
  ·rename_i hn;rw[if_neg hn]
 generalize ofB s u fr.1=bb at *
 obtain⟨b,bk⟩:=bb;dsimp only at hO av Df hno a1 ⊢;by_cases c3:b.how=3
 case neg=>
  have n4:=bnT c3;obtain⟨c4,c5,c6⟩:=hno z c2 c3;have n3:=beF c4;rw[if_neg c3,if_neg c4];have be:=col row b.col om;have a6:=Mx s d A b.table (bM (x::C)) (iG row b.col) c5 fr.1.t (p++[⟨f,0⟩]) st (isT fr.1.t) om c6 (t0 := .len st.F.length) (t1 := .Y (kI st.R)) (t2 := .len 0) (by have:=qQ 2 4 st;unfold mvT at this;simp only[aL,Bool.and_true,and_eq_true]at this ⊢;exact⟨this.1,this.2.1,this.2.2,by rw[Tok.aa,aE,aF _ _ _ (d8 _)];rfl⟩)
  have aw:dL s pl b.table (bM (x::C)) (iG row b.col) fr.1.t (p++[⟨f,0⟩]) st.ag=(mS false bO,st.ag.ag):=by rw[DI,if_pos c5,if_neg (by simp[c6])]
  rw[aw];have q1:=cM s d A st 3 om;have q2:aL 2 3 (mvT st++[.Y [knG 0 (isT fr.1.t)]])=true:=by rw[iE,qQ];rfl
  have q3:=cM s d A st 4 om;have q4:aL 2 4 (mvT st++[.Y [knG 0 (isT fr.1.t)]])=true:=by rw[iE,qQ];rfl
  have q6:aL 2 3 (mvT st++[.Y [(mS false bO).aj]])=true:=by rw[iE,qQ,aL,Tok.aa,aE,aF _ _ _ (d8 _)];rfl
  have q7:=aC 2 3 _ (mM fr.1.t (iG row b.col) b.table [] ⟨[],0,0⟩ (bM (x::C)) (p++[⟨f,0⟩]));have q8:aE 2 4 (AV.ptr 0 0::AV.an 3 10 1 0 0::[fr.1.t.C,(iG row b.col).C,jR .nilp b.table [] ⟨[],0,0⟩ (bM (x::C)) (p++[⟨f,0⟩])])=true:=by have:=aC 2 4 _ (mM fr.1.t (iG row b.col) b.table [] ⟨[],0,0⟩ (bM (x::C)) (p++[⟨f,0⟩]));rw[aE,aE,this];rfl
  repeat' first|refine .br ?_|refine bH (d:=13) ?_|refine bY 13 rfl (aY) ?_|refine .s1 ?_|(refine .q ?_ ?_<;>intro O)|refine dR a3 ?_|refine bZ ?_|refine fY rfl ?_|refine iL (B0:=evB s d A st) (B1:=evB s d A st) (T0:=mvT st) (T1:=mvT st) (B:=[]) (T:=[_,_,_,_]) rfl g rfl (.inl rfl) (.inr rfl) (le_refl _) (le_refl _) b3 t3 b3 t3 a2 w (aD _) ?_|refine tO (B0:=evB s d A st) (B1:=evB s d A st) (T0:=mvT st) (T1:=mvT st) (x0 := .Y [knG 0 (isT fr.1.t)]) (x1 := .Y [(mS false bO).aj]) (M:=[_,_,_]) (M2:=[_]) (pre:=[.ptr 0 0]) (o:=[_,_,_]) rfl a6 rfl rfl rfl q1 q2 q3 q4 q1 q6 rfl q7 q8 rfl (aD _) ?_|refine aX (agg:=true) ?_|fail
  refine⟨_,_,rfl,cU (k:=3) (i:=0) (c:=9) rfl rfl rfl (nD (aY (k:=6) (n:=1) (j:=0))) rfl rfl,rfl, ?_⟩;simp only[knP,map_append,map_cons,map_nil];rfl
 have n3:(b.how==2)=false:=by rw[c3];rfl
 have n4:(b.how != 3)=false:=by rw[c3];rfl
 rw[if_pos c3,if_pos rfl];have a1:=a1 z c2 c3;have Df:=Df z c2 c3;have bp:=aD2 s fr.1 b a.1 om;have ad:=BH.K (oZ fr.1 b a.1);have ah:=doR (kI st.R) st.L (oZ fr.1 b a.1) st.R.length (oD _) hR (gZ _) a1;have au:st.ag.L=st.L:=rfl;rw[au];generalize oZ fr.1 b a.1=cm at *
 generalize gI st.L cm=r at *
 have ac:aB (kI st.R++[.slice [] .nil])=true:=by rw[w8,gZ];rfl
 have aj:AA [.ptr 1 0,cm.C] (aW (emb 4 [1]) (emb 8 [1]) [.ptr 0 0,cm.C]):=by rw[aW,aW,aW,cV _ _ _ ad,AV.ae];exact aD _
 have ai:(AV.tup [r.2.1.C, .int .i64 r.2.2]).ae (emb 4 [1]) (emb 8 [1]) = .tup [r.2.1.C, .int .i64 r.2.2]:=cV _ _ _ (by simp[AV.K,aB,AH.K]);have ag:aE 1 1 [.ptr 0 0,cm.C]=true:=by rw[aE,aE,aF _ _ _ ad];rfl
 have ae:aQ 1 1 [.cells [Tbls.C st.L, .Y 0 1 st.R.length 0 st.R.length]]=true:=Zn
 have af:aL 1 1 [.Y (kI st.R)]=true:=by rw[aL,Tok.aa,aC _ _ _ (gZ _)];rfl
 have s4:Bo 4 [1]:=⟨Wc,λi X=>Yf⟩;have s8:Bo 8 [1]:=⟨Wc,λi X=>Yf⟩;have aa:(st.R++[[]]).length=st.R.length+1:=Y7
 by_cases c5:r.2.2=0
 case neg=>
  have n5:=bnT c5;rw[if_pos c5];have a0:∀(x:List Ob) (e:Int),_:=λ(x:List Ob) (e:Int)=>JX s d A rdV lyV (.cells (lG r.1 (st.R.length+1))::x) [.len st.F.length, .Y (kI st.R++[.slice [] .nil]), .len 0, .Y [.agg [.int .i64 2, .bool m, .int .i64 0, .int .i64 0, .str [], .slice [] .nil, .slice [] .nil, .slice (h.map AV.str++[.str f]) (.own 4 1), .slice [] .nil, .slice ((xs.map λy => .ab y.aj)++[.an 6 10 1 0 0]) (.own 5 1)]], .len (h.length+1), .len (xs.length+1), .Y [knG 0 (isT fr.1.t)], .len 2] st.F 6 (p++[⟨f,0⟩]) e rfl rfl Wc om
  have b0:=H7 st.R;have az:(kI (st.R++[[]])).length=(kI st.R++[AV.slice [] .nil]).length:=by rw[oD,aa,length_append,oD];rfl
  repeat' first|refine .br ?_|refine bH (d:=13) ?_|refine bY 13 rfl (aY) ?_|refine .s1 ?_|(refine .q ?_ ?_<;>intro O)|refine dR a3 ?_|refine Ml rfl rfl rfl rfl ?_|refine bZ ?_|refine fY rfl ?_|refine iL (B0:=evB s d A st) (B1:=evB s d A st) (T0:=mvT st) (T1:=mvT st) (B:=[]) (T:=[_,_,_,_]) rfl g rfl (.inl rfl) (.inr rfl) (le_refl _) (le_refl _) b3 t3 b3 t3 a2 w (aD _) ?_|refine G8 (nB:=4) (nT:=8) [1] [1] rfl rfl ah rfl rfl s4 s8 rfl rfl (Ro rfl rfl) (Rp rfl (gZ _)) ae af ag aj ai (U9 _ _ _ _ _ rfl) (Va _ _ _ _ ac) ?_|refine dR (a0 _ _) ?_|refine aX (agg:=true) ?_|fail
  refine⟨_,_,rfl,AJ.trans (DK (k:=1) rfl b0 az rfl) (AJ.trans (eP (k:=6) rfl (iQ 3 (isT fr.1.t) _ _ _ _) rfl) (cU (k:=3) (i:=0) (c:=9) rfl rfl rfl (nD (aY (k:=6) (n:=1) (j:=0))) rfl rfl)), ?_, ?_⟩
  ·show [Ob.cells (rJ s d A rdV lyV (st.F++[⟨p++[⟨f,0⟩],r.2.2⟩])), .cells (lG r.1 (st.R.length+1))]=[Ob.cells (rJ s d A rdV lyV (st.F++[⟨p++[⟨f,0⟩],r.2.2⟩])), .cells (lG r.1 (st.R++[[]]).length)];rw[aa]
  ·simp only[knP,map_append,map_cons,map_nil];exact KL (zH st r.1) (p++[⟨f,0⟩]) r.2.2 _
 have n5:(r.2.2 != 0)=false:=by rw[c5];rfl
 rw[if_neg (by simp[c5])];have a6:=Df c5;unfold Bs at a6;have eS:(⟨r.1,st.ag.F,st.ag.R++[[]],st.ag.c⟩:AT)=zH st r.1:=rfl;rw[eS];have q1:=cM s d A (zH st r.1) 4 om;have q2:=pU 2 4 om (zH st r.1) (knG 0 (isT fr.1.t)) rfl;have q7:=mM fr.1.t r.2.1 b.table [] ⟨[],0,0⟩ (bM (x::C)) (p++[⟨f,0⟩]);have q8:aE 2 4 (AV.ptr 0 0::AV.an 3 10 1 0 0::[fr.1.t.C,r.2.1.C,jR .nilp b.table [] ⟨[],0,0⟩ (bM (x::C)) (p++[⟨f,0⟩])])=true:=by have:=aC 2 4 _ q7;rw[aE,aE,this];rfl
 have hw:AA (AV.ptr 0 0::AV.an 6 10 1 0 0::[fr.1.t.C,r.2.1.C,jR .nilp b.table [] ⟨[],0,0⟩ (bM (x::C)) (p++[⟨f,0⟩])]) (aW (emb 4 [0,1]) (emb 9 [0,1,8,6]) (AV.ptr 0 0::AV.an 3 10 1 0 0::[fr.1.t.C,r.2.1.C,jR .nilp b.table [] ⟨[],0,0⟩ (bM (x::C)) (p++[⟨f,0⟩])])):=by rw[aW,aW,aS _ _ _ q7,AV.ae,AV.ae];exact aD _
 have aq:∀(a:Ob) (q:List Ob),(a :: .cells (lG r.1 (st.R.length+1))::q)[1]? =some (Ob.cells (lG (zH st r.1).L (zH st r.1).R.length)):=λa q=>by show some (Ob.cells (lG r.1 (st.R.length+1)))=some (.cells (lG r.1 (st.R++[[]]).length));rw[aa]
 have hz:(eF (zH st r.1).R).length=0:=by show (eF (st.R++[[]])).length=0;rw[tW];rfl
 generalize dL s pl b.table (bM (x::C)) r.2.1 fr.1.t (p++[⟨f,0⟩]) (zH st r.1)=r2 at *
 have b4:Bo 4 [0,1]:=⟨Wc,λi X=>Yf⟩;have b5:Bo 9 [0,1,8,6]:=⟨Wc,λi X=>Yf⟩;have ar:(kI r2.2.R).length=(rdJ 8 r2.2.R).length:=by rw[Jn,oD]
 repeat' first|refine .br ?_|refine bH (d:=13) ?_|refine bY 13 rfl (aY) ?_|refine bY 0 rfl (Rm (R:=st.R) (J:=8) rfl rfl rfl) ?_|refine .s1 ?_|(refine .q ?_ ?_<;>intro O)|refine dR a3 ?_|refine Ml rfl rfl rfl rfl ?_|refine bZ ?_|refine fY rfl ?_|refine iL (B0:=evB s d A st) (B1:=evB s d A st) (T0:=mvT st) (T1:=mvT st) (B:=[]) (T:=[_,_,_,_]) rfl g rfl (.inl rfl) (.inr rfl) (le_refl _) (le_refl _) b3 t3 b3 t3 a2 w (aD _) ?_|refine G8 (nB:=4) (nT:=8) [1] [1] rfl rfl ah rfl rfl s4 s8 rfl rfl (Ro rfl rfl) (Rp rfl (gZ _)) ae af ag aj ai (U9 _ _ _ _ _ rfl) (Va _ _ _ _ ac) ?_|refine lX (nB:=4) (nT:=9) (v := .tup []) [0,1] [0,1,8,6] rfl a6 rfl rfl b4 b5 rfl rfl (VU s d A (zH st r.1) rfl (aq _ _) rfl rfl rfl rfl) (VV (zH st r.1) (knG 0 (isT fr.1.t)) rfl hz rfl rfl rfl rfl rfl) q1 q2 q8 hw rfl (aCI s d A r2.2 _ _ _ rfl rfl rfl rfl) (aCJ r2.2 _ (d8 _) _ _ _ _ _ _ _ _ _ rfl) ?_|refine aX (agg:=true) ?_|fail
 refine⟨_,_,rfl,AJ.trans (DK (k:=1) rfl (F8 8 r2.2.R) ar rfl) (cU (k:=3) (i:=0) (c:=9) rfl rfl rfl (nD (aY (k:=6) (n:=1) (j:=0))) rfl rfl),rfl, ?_⟩;simp only[knP,map_append,map_cons,map_nil];rfl
structure CB(W:Nat->List AY->Prop)(st:AT):Prop where
 F:st.F.length<=st.c
 R:st.R.length<=st.c
 W:W st.c st.L
def Bl(s:AI)(u:AF):Prop:=∀name,name≠bC->(ofB s u (aK s u name).1).1.how≠3->(aK s u name).1=qB
def EA{s:AI}{u:AF}(h:Bl s u){name:AF}(h1:name≠bC)(h2:(ofB s u (aK s u name).1).1.how≠3):(ofB s u (aK s u name).1).1.how≠2/\(iG cG (ofB s u (aK s u name).1).1.col).kind=0/\isT (aK s u name).1.t=false:=by
 rw[h name h1 h2];unfold ofB;split
 ·decide
 ·decide
def x4(s:AI)(d:AR)(A:List AG)(pl:Pl)(hpl:Bm pl)(a:Bool)(u:AF)(row:Row)(g:AW)(p:Ac)(st:AT):st.c+1<=(cA s d A pl a u row g p st).2.c:=by have h:=Gg s d A pl hpl a u row g p st;omega
def Gi{α:Type}(a:α->AT->Nd×AT)(hf:∀g st,st.c+1<=(a g st).2.c)(l:List α)(st:AT):∀j k:Nat,k+j<=l.length->(bX a (l.take k) st).2.c+j<=(bX a (l.take (k+j)) st).2.c
 |0,k,h=>le_refl _
 |j+1,k,h=>by have h1:=Gi a hf l st j k om;have h2:=nS a l (k+j) om st;grind
section
variable (s:AI) (d:AR) (A:List AG) (Y:Am s d A) (pl:Pl) (hplk:Aw pl) (u:AF) (W:Nat->List AY->Prop) (hW:BI s A u W) (hno:Bl s u)
include Y hplk hW hno
theorem Pz(g:AW)(c0:Nat)(hS:Ai g.O c0)(z:g.O≠[])(p:Ac)(st:AT)(h:CB W st)(O:st.c<400):CB W (cA s d A pl true u cG g p st).2:=by
 obtain⟨x,C,l⟩:=List.exists_cons_of_ne_nil z;have m:g.O.headD sl0=x:=by rw[l];rfl
 have o:=hS.all x (by rw[l];simp);have hF:=h.F;have hR:=h.R;have v:∀(L:List AY) (F:List A0) (R:List (List Aa)) (k c:Nat),W k L->k<=c->F.length<=c->R.length<=c->CB W ⟨L,F,R,c⟩:=λL F R k c a b f r=>⟨f,r,hW.mono _ _ _ a b⟩
 have j:∀e:Int,(st.F++[(⟨p,e⟩:A0)]).length<=st.c+1:=λe=>by rw[length_append];exact Nat.succ_le_succ hF
 have r1:(st.R++[[]]).length<=st.c+1:=by rw[length_append];exact Nat.succ_le_succ hR
 unfold cA;dsimp only;split
 ·exact v st.L st.F st.R st.c _ h.W (Nat.le_succ _) om om
 rename_i c1;split
 ·exact v st.L _ st.R st.c _ h.W (Nat.le_succ _) (j _) (by show st.R.length<=st.c+1;omega)
 have i:=hW.bw st.c st.L g h.W (by unfold hdS;rw[m];exact o.1) (by unfold hdS;rw[m];exact o.2);by_cases q:(ofB s u (aK s u (g.O.headD sl0).name).1).1.how=3
 ·rw[if_pos q,if_pos rfl];have i:=i q O;have eL:st.ag.L=st.L:=rfl;rw[eL];have y:=Lu st.L (oZ (aK s u (g.O.headD sl0).name).1 (ofB s u (aK s u (g.O.headD sl0).name).1).1 (dV s (aK s u (g.O.headD sl0).name).1.params (g.O.headD sl0).args A).1);generalize gI st.L (oZ (aK s u (g.O.headD sl0).name).1 (ofB s u (aK s u (g.O.headD sl0).name).1).1 (dV s (aK s u (g.O.headD sl0).name).1.params (g.O.headD sl0).args A).1)=r at *;by_cases w:r.2.2≠0
  ·rw[if_pos w];refine v r.1 _ _ st.c _ (by rw[y w];exact h.W) (Nat.le_succ _) (j _) r1
  ·rw[if_neg w];have n:At ⟨r.1,st.ag.F,st.ag.R++[[]],st.ag.c⟩:=⟨by show st.F.length<=st.c+1;omega,Wa,Ye,by show (st.R++[[]]).length<=_;omega,hW.bq _ _ i⟩;have k:=nY s pl hplk (ofB s u (aK s u (g.O.headD sl0).name).1).1.table (bM g.O) r.2.1 (aK s u (g.O.headD sl0).name).1.t p _ n;have kc:=Jh s pl hplk (ofB s u (aK s u (g.O.headD sl0).name).1).1.table (bM g.O) r.2.1 (aK s u (g.O.headD sl0).name).1.t p _ n;have a0:st.c+2<=(dL s pl (ofB s u (aK s u (g.O.headD sl0).name).1).1.table (bM g.O) r.2.1 (aK s u (g.O.headD sl0).name).1.t p ⟨r.1,st.ag.F,st.ag.R++[[]],st.ag.c⟩).2.c:=kc;refine⟨k.ok.F, ?_, ?_⟩
   ·rw[k.R];show (st.R++[[]]).length<=_;omega
   ·rw[k.L];exact hW.mono _ _ _ i a0
 ·rw[if_neg q];obtain⟨n2,nk,nt⟩:=EA hno c1 q;rw[if_neg n2,DI,if_pos nk,if_neg (by rw[nt];decide)];exact v st.L st.F st.R st.c _ h.W (by show st.c<=st.c+1+1;omega) (by show st.F.length<=st.c+1+1;omega) (by show st.R.length<=st.c+1+1;omega)
end
def fmT(s:AI)(d:AR)(A:List AG)(n:Nat)(u:AF)(g:AW)(st:AT):Nd×AT:=cA s d A (bV s d A n false) true u cG g ([]++[⟨g.key,0⟩]) st
def Gj(s:AI)(d:AR)(A:List AG)(Y:Am s d A)(n:Nat)(u:AF)(W:Nat->List AY->Prop)(hW:BI s A u W)(hno:Bl s u)(b:Nat)(a:List AW)(j:∀g∈a,g.O≠[]/\Ai g.O b)(st:AT)(h:CB W st)(O:(bX (fmT s d A n u) a st).2.c<=400):∀k,k<=a.length->CB W (bX (fmT s d A n u) (a.take k) st).2/\st.c+k<=(bX (fmT s d A n u) (a.take k) st).2.c/\(bX (fmT s d A n u) (a.take k) st).2.c+(a.length-k)<=400
 |0,_=>by have:=Gi (fmT s d A n u) (λg st=>x4 s d A _ (mD s d A n) true u cG g _ st) a st a.length 0 om;rw[Nat.zero_add,List.take_length]at this;exact⟨h,le_refl _,om⟩
 |k+1,hk=>by obtain⟨m,o,p⟩:=Gj s d A Y n u W hW hno b a j st h O k om;have l:=Gi (fmT s d A n u) (λg st=>x4 s d A _ (mD s d A n) true u cG g _ st) a st (a.length-(k+1)) (k+1) om;rw[show k+1+(a.length-(k+1))=a.length by omega,List.take_length]at l;have ht:=nS (fmT s d A n u) a k om st;have hl:=x4 s d A _ (mD s d A n) true u cG a[k] ([]++[⟨a[k].key,0⟩]) (bX (fmT s d A n u) (a.take k) st).2;obtain⟨e,i⟩:=j a[k] (List.getElem_mem om);have f:=Pz s d A Y _ (nZ s d A n) u W hW hno a[k] b i e ([]++[⟨a[k].key,0⟩]) _ m om;rw[ht]at l ⊢;exact⟨f,by show _<=(cA s d A _ true u cG a[k] _ _).2.c;omega,om⟩
def TQ(s:AI)(d:AR)(A:List AG)(Y:Am s d A)(n:Nat)(u:AF)(W:Nat->List AY->Prop)(hW:BI s A u W)(hno:Bl s u)(g:AW)(x:Sl)(C:List Sl)(w:g.O=x::C)(hS:Ai g.O 1)(f:List Sl)(st:AT)(h:CB W st)(a7:1<=st.c)(O:(fmT s d A n u g st).2.c<=400)(m:Bool)(k:List AF)(xs:List Nd)(z:k.length<=1048576)(a2:xs.length<=1048576):
  AQ prog 28 [.ptr 0 0,plE (.an 3 10 1 0 0) u cG f [],g.C,doV] ⟨evB s d A st,mvT st++[.Y [knP m k (xs.map λy => .ab y.aj)], .len k.length, .len xs.length]⟩
   (λe σ'=> e = .ret (.tup [])/\σ'= ⟨evB s d A (fmT s d A n u g st).2,mvT (fmT s d A n u g st).2++[.Y [knP m (k++[g.key]) ((xs++[(fmT s d A n u g st).1]).map λy => .ab y.aj)], .len (k.length+1), .len (xs.length+1)]⟩):=by
 obtain⟨a,sl⟩:=g;subst w;have hlt:=x4 s d A _ (mD s d A n) true u cG ⟨a,x::C⟩ ([]++[⟨a,0⟩]) st;have i:st.c<400:=by have e:(fmT s d A n u ⟨a,x::C⟩ st).2.c=(cA s d A (bV s d A n false) true u cG ⟨a,x::C⟩ ([]++[⟨a,0⟩]) st).2.c:=rfl;omega
 have b:=hS.all x Wa;have hF:=h.F;have hR:=h.R;have l:=hW.bw st.c st.L ⟨a,x::C⟩ h.W b.1 b.2;have o:=hW.fits st.c st.L ⟨a,x::C⟩ h.W b.1 b.2;have ab:=Y.hs;obtain⟨f1,f2⟩:=j4 Y.so u x.name;have a9:(aK s u x.name).1.size=(aK s u x.name).1.name.length+aA AO.size (aK s u x.name).1.params+(aK s u x.name).1.t.size+aA AM.size (aK s u x.name).1.ao+4:=rfl;have a8:(aK s u x.name).1.t.name.length<=(aK s u x.name).1.t.size:=Xu
 obtain⟨a6,r⟩:=Co Y u x b.1 b.2;have a1:aA Sl.size (x::C)<=68719476736:=Nat.le_trans hS.sz Wc;refine TP s d A Y (bV s d A n false) u cG Wc a x C f [] st m k xs om om b a1 Wc z a2 (λp q j=>EA hno p j) (λp q j=> ?_) (λp q j c4=> ?_)
 ·obtain⟨B,b1,b2⟩:=o j i;exact aCH st.L (wF s A u x) b1 b2
 ·have hT:=hW.bq _ _ (l j i);have hv:=(E5 (L:=st.L) (c:=wF s A u x) (B:=1048576) ⟨(hW.bq _ _ h.W).a7,(hW.bq _ _ h.W).bj⟩ (λm hm=>(r m hm).2)).1;have a0:At (zH st (gI st.L (wF s A u x)).1):=⟨by show st.F.length<=st.c+1;omega,by show st.R++[[]]≠[];simp,Ye,by show (st.R++[[]]).length<=_;rw[length_append];simp only[List.length_cons,List.length_nil];omega,hT⟩;have v:(dL s (bV s d A n false) (EY s u x).table (bM (x::C)) (gI st.L (wF s A u x)).2.1 (aK s u x.name).1.t ([]++[⟨a,0⟩]) (zH st (gI st.L (wF s A u x)).1)).2.c<=4096:=by refine Nat.le_trans ?_ (Nat.le_trans O Wc);unfold fmT cA;dsimp only[List.headD];rw[if_neg p,if_neg (λh=>h q),if_pos j,if_pos rfl,if_neg (λh=>h c4)];exact le_refl _
  exact Mn s d A Y (bV s d A n false) (nZ s d A n) (Jk s d A Y n) (EY s u x).table (bM (x::C)) _ (gI st.L (wF s A u x)).2.1 (le_refl _) (aK s u x.name).1.t ([]++[⟨a,0⟩]) (zH st (gI st.L (wF s A u x)).1) (isT (aK s u x.name).1.t) om a0 ((tP hS).mono (by show 1<=st.c+1;omega)) (by show 1<=st.c+1;omega) (by show st.c+1<=4096;omega) (.inr hv) v
end Go.Proofs.YtdodieljpcfpcaaGreatDoor
namespace Go.Av
open Go
variable [AK] {P:Program} [Lay P] {N:Nat} {D:List Deferred} {c:Code} {K:AX->AE->St->Prop} {s:AE} {H:St} {α β:Type}
def NZ(L:List α)(n:Nat)(hn:n<=L.length)(E:α->AV)(p:α->Bool)(S:Nat->AE)
  (cons:∀(k:Nat) (h:k<L.length),k<n->decide ((k:Int)<(n:Int))=true->(L.map E)[k]? =some (E L[k])->L[k]∈L->(p L[k]=false->(L.take n).all p=false)->AB P N D c (thn (Nx S H k (p L[k]=true)) K) (S k) H)
  (nil:decide ((n:Int)<(n:Int))=false->(L.take n).all p=true->AB P N D c (thn (λ_ _=>False) K) (S n) H)
  (hs:Sub (S 0) s:=by (repeat' first|exact trivial|refine⟨rfl, ?_⟩)):AB P N D (.loop c) K s H:=by
 have e:(L.take n).length=n:=Wh
 have ge:∀k (h:k<n),(L.take n)[k]'om=L[k]'om:=λk h=>Wa
 refine lZ (L.take n) E p S (λk h a Y b hp=> ?_) (λa hp=> ?_) hs
 ·have hk:k<n:=om
  rw[ge k hk]at hp ⊢;exact cons k om hk XT (by simp[show k<L.length by omega]) (List.getElem_mem _) hp
 ·rw[e]at a ⊢;exact nil a hp
structure Ny{γ:Type}(F:γ->AV)(z:Nat)(T0:List Tok)(M:Nat->List γ)(o:Nat)(S:Nat->AE)(k:Nat)(s': AE)(σ': St):Prop where
 out:lk s' o = .slice ((M (k+1)).map F) (.own T0.length z)
 sub:Sub (S (k+1)) s'
 aa:aM 0 (T0.length+1) (S (k+1))=true
 same:(⟨σ'.B.take 0,σ'.T.take (T0.length+1)⟩:St)=⟨[],T0++[.len (M (k+1)).length]⟩
theorem ED(m:Nat):∀T0:List Tok,aL 0 m T0=true->∀n:Nat,aL 0 m (T0++[.len n])=true
 |[],_,_=>rfl
 |t::T,h,n=>by rw[aL,and_eq_true]at h;rw[List.cons_append,aL,h.1,ED m T h.2];rfl
def Gk(L:List α)(E:α->AV)(F:γ->AV)(z:Nat)(T0:List Tok)(M:Nat->List γ)(o:Nat)(S:Nat->AE)
  (cons:∀(k:Nat) (h:k<L.length),decide ((k:Int)<(L.length:Int))=true->(L.map E)[k]? =some (E L[k])->L[k]∈L->AB P N D c (thn (Ny F z T0 M o S k) K) ((o, .slice ((M k).map F) (.own T0.length z))::S k) ⟨[],T0++[.len (M k).length]⟩)
  (nil:decide ((L.length:Int)<(L.length:Int))=false->AB P N D c (thn (λ_ _=>False) K) ((o, .slice ((M L.length).map F) (.own T0.length z))::S L.length) ⟨[],T0++[.len (M L.length).length]⟩)
  (O:∀l:List γ,aB (l.map F)=true) (g:lk s o = .slice ((M 0).map F) (.own T0.length z)) (hs:Sub (S 0) s:=by (repeat' first|exact trivial|refine⟨rfl, ?_⟩)) (hσ:H=⟨[],T0++[.len (M 0).length]⟩:=by exact rfl) (hT:aL 0 (T0.length+1) T0=true:=by exact rfl):AB P N D (.loop c) K s H:=by
 refine fB L E (λk=>(o, .slice ((M k).map F) (.own T0.length z))::S k) (λk=>⟨[],T0++[.len (M k).length]⟩) (λ_=>True) trivial (λk h f Y _=> ?_) (λf _=>nil f) ⟨g,hs⟩ hσ.symm;refine(cons k h f Y (List.getElem_mem h)).mono λe s' σ' h=> ?_
 cases e with
 |normal=>
  have q:(AV.slice ((M (k+1)).map F) (.own T0.length z)).aa 0 (T0.length+1)=true:=by rw[AV.aa,aC _ _ _ (O _)];simp
  have i:=ED (T0.length+1) T0 hT;have a:=h.same;simp only[St.mk.injEq]at a;have d:H.T.length=T0.length+1:=by rw[hσ];simp
  have b:H.B.length=0:=by rw[hσ];rfl
  refine⟨⟨h.out,h.sub⟩, ?_, ?_, ?_,trivial⟩
  ·rw[d,b];show (AV.aa 0 _ _&&aM 0 _ _)=true;rw[q,h.aa];rfl
  ·rw[d,b,a.2,a.1,i];rfl
  ·rw[d,b,a.2,a.1]
 |exit id=>exact h
 |goto l=>exact h
 |ret=>exact h
 |pan x=>exact h
def KM(L:List α)(E:α->AV)(F:γ->AV)(z:Nat)(M:Nat->List γ)(o:Nat)(S:Nat->AE)(a:M 0=[])
  (cons:∀(k:Nat) (h:k<L.length),decide ((k:Int)<(L.length:Int))=true->(L.map E)[k]? =some (E L[k])->L[k]∈L->AB P N D c (thn (Ny F z [] M o S k) K) ((o, .slice ((M k).map F) (.own 0 z))::S k) ⟨[],[.len (M k).length]⟩)
  (nil:decide ((L.length:Int)<(L.length:Int))=false->AB P N D c (thn (λ_ _=>False) K) ((o, .slice ((M L.length).map F) (.own 0 z))::S L.length) ⟨[],[.len (M L.length).length]⟩)
  (O:∀l:List γ,aB (l.map F)=true) (b:lk? s o=some (.slice [] .nil):=by exact rfl) (hs:Sub (S 0) ((o, .slice [] (.own 0 z))::s):=by (repeat' first|exact trivial|refine⟨rfl, ?_⟩)):AB P N D (.loop c) K s ⟨[],[]⟩:=by refine eJ o false z b ?_;refine Gk L E F z [] M o S cons nil O ?_ hs WD;rw[a];simp[lk]
def p5{t:Nat}{s:AE}{v r:AV}(h:lk? s t=some v:=by exact rfl)(hr:v=r:=by first|rfl|simp_all):∃a,Av.ret (gK s [t]) = .ret a/\AC a r:=aP h (AC.eq hr)
def Fin.rg{t z:Nat}{s:AE}{r:AV}(h:lk? s t=some (.slice xs (.own k z)):=by exact rfl)(hr:AV.slice xs .no=r:=by first|rfl|simp_all):∃a,Av.ret (gK s [t]) = .ret a/\AC a r:=aP h (hr▸AC.no (aD _))
end Go.Av
namespace Go.Proofs.YtdodieljpcfpcaaGreatDoor
open Go Go.Av Go.Proofs.Tryz
variable [AK] {P:Program} [Lay P] {N:Nat} {s:AE} {H:St}
theorem ny{F:γ->AV}{z:Nat}{T0:List Tok}{M:Nat->List γ}{o:Nat}{S:Nat->AE}{k:Nat}{s': AE}(ys:List γ)(a:M (k+1)=ys)(h0:lk s' o = .slice (ys.map F) (.own T0.length z):=by first|exact rfl|(rw[List.map_append];exact rfl))
  (hs:Sub (S (k+1)) s':= by (repeat' first|exact trivial|refine⟨rfl, ?_⟩)) (hb:aM 0 (T0.length+1) (S (k+1))=true:=by first|exact rfl|simp[aM,AV.aa,aF,aC,aR,AI.K,AR.K,aZ,b9,aT,b8,dT])
  (h4:(⟨σ'.B.take 0,σ'.T.take (T0.length+1)⟩:St)=⟨[],T0++[.len ys.length]⟩:=by first|exact rfl|(rw[List.length_append];exact rfl)):Ny F z T0 M o S k s' σ':= by subst a;exact⟨h0,hs,hb,h4⟩
end Go.Proofs.YtdodieljpcfpcaaGreatDoor
namespace Go.Av
open Go Go.Proofs.YtdodieljpcfpcaaGreatDoor
variable [AK] {P:Program} [Lay P] {N:Nat} {s:AE} {H:St}
def AB.wc{D:List Deferred}{c:Code}{K:AX->AE->St->Prop}(h:AB P N D c K s H:=by ((repeat' first|refine .br ?_|refine .s1 ?_|(refine .q ?_ ?_<;>intro O)|fail);all_goals first|exact mX|exact nx|exact p5|exact nx (h3:=by simp[aQ,aL,Ob.aa,aE,AV.aa,aC,b9,b8,aZ])|fail)):AB P N D c K s H:=h
end Go.Av
namespace Go.Proofs.YtdodieljpcfpcaaGreatDoor
open Go Go.Av Go.Proofs.Tryz
def mY(d:AR)(l:List Sl):List AF:=d.ai.foldl (λout f=>if f.name∈mC d l/\f.name∉out then out++[f.name] else out) []
def dF(s:AI)(u:AF)(x:Sl):AF:=if x.kind=0 then (aK s u x.name).1.t.name else if x.kind=2 then (if x.on=[] then u else x.on) else []
def jY{α:Type}(p:α->α->Bool):List α->List α->Bool
 |_,[]=>true
 |pre,x::l=>(pre.all λy=>p y x)&&jY p (pre++[x]) l
theorem KN{p:γ->γ->Bool}{l:List γ}{k:Nat}(h:k<l.length):jY p (l.take k) (l.drop k)=(((l.take k).all λy=>p y l[k])&&jY p (l.take (k+1)) (l.drop (k+1))):=by rw[List.drop_eq_getElem_cons h,jY, <-List.take_succ_eq_append_getElem h]
def Cr(n:AF):Bool:=n==oE||n==fU
def N1:AO:=⟨sIf,⟨iB,0,1⟩,false,bO⟩
def x5(n:AF):AO×Bool:=if Cr n=true then (N1,true) else (In,false)
def wH(x:AM):List AO:=if Cr x.name=true then [N1] else []
def My(a b:List AG):Bool:=decide (a.length=b.length)&&a.all λx=>(bR x.name b).2&&rY (bR x.name b).1 x.v
def Mz(s:AI)(a b:Ae):Bool:=
 if a.ak≠b.ak\/a.ay≠b.ay then false
 else if eC s a.name=true\/eC s b.name=true then a.name==b.name
 else fQ s a.name&&fQ s b.name
def cL(s:AI)(d:AR):Nat->List Sl->AF->List As
 |0,_,_=>[]
 |N+1,l,u=>l.flatMap λx=>if x.kind=0 then [⟨u,x⟩] else if x.kind=2 then cL s d N x.O (dF s u x)
   else if x.kind=1 then cL s d N (cJ d x.name).1.O (cJ d x.name).1.on else []
def oT(s:AI)(d:AR)(N:Nat)(a b:As):List As:=cL s d N a.x.O (dF s a.av a.x)++cL s d N b.x.O (dF s b.av b.x)
def pB(s:AI)(d:AR):Nat->As->As->Bool
 |0,_,_=>false
 |N+1,a,b=>if jL a.x≠jL b.x then true
   else if Mz s (aK s a.av a.x.name).1.t (aK s b.av b.x.name).1.t=false then false
   else jY (pB s d N) [] (oT s d N a b)
def VW(s:AI)(n:AF):Bool:=fJ s n [1]
def DM(s:AI)(d:AR):Nat->As->As->Bool
 |0,_,_=>false
 |N+1,a,b=>if jL a.x≠jL b.x then true
   else if pB s d (N+1) a b=false then false
   else if a.av≠b.av/\VW s a.av=true/\VW s b.av=true then true
   else (a.x.name==b.x.name&&(My a.x.args b.x.args&&jY (DM s d N) [] (oT s d N a b)))
def kW(s:AI)(d:AR)(N:Nat):List Sl->AF->Bool
 |l,u=>jY (DM s d N) [] (cL s d N l u)&&l.attach.all λ⟨x,_⟩ => !(decide (0<x.O.length) && !kW s d N x.O (dF s u x))
termination_by l=>aA Sl.size l
decreasing_by
 rename_i h
 have h1:=aN (size:=Sl.size) h
 have h2:=x.ax
 omega
theorem PA(s:AI)(d:AR)(N:Nat)(l:List Sl)(u:AF):kW s d N l u=(jY (DM s d N) [] (cL s d N l u)&&l.all λx => !(decide (0<x.O.length) && !kW s d N x.O (dF s u x))):=by
 rw[kW];congr 1;conv=>rhs;rw[<-List.attach_map_subtype_val l,List.all_map]
 rfl
def Js(s:AI)(d:AR):Bool:=(d.ops.all λo=>kW s d 64 o.O (aV s o))&&d.ai.all λf=>kW s d 64 f.O f.on
attribute [local irreducible] AB AD AN AQ Av.AS AZ
def Rq(c:UInt8):AN prog 208 [.int .u8 (c.toNat:Int)] (.bool (Ht c)):=by
 refine pEn 2 func208 ?_
 repeat' first|refine .s1 ?_|(refine .q ?_ ?_<;>intro O)|fail
 all_goals
  refine Fin.rb ?_;unfold Ht;rw[Bool.eq_iff_iff];simp at *; omega
def Rr(c:UInt8):AN prog 209 [.int .u8 (c.toNat:Int)] (.bool (o8 c)):=by
 refine pEn 2 func209 ?_
 repeat' first|refine .s1 ?_|(refine .q ?_ ?_<;>intro O)|fail
 all_goals
  refine Fin.rb ?_;unfold o8;rw[Bool.eq_iff_iff];simp at *; omega
def Cs(s:AF)(hs:s.length<=9223372036854775806):AN prog 137 [.str s] (.bool (lS s)):=by
 refine pEn 2 func137 ?_;by_cases h0:s=[]
 ·subst h0;refine .go ?_;exact bW
 ·have e:=beF h0;have hl:0<s.length:=List.length_pos_iff.2 h0;have x0:s[0]? =some s[0]:=gC hl;have d:=Rq s[0];have hn:lS s=(Ht s[0]&&nmC false (s.drop 1)):=by
   cases s with
   |nil=>exact absurd rfl h0
   |cons c r=>simp[lS,nmC]
  repeat' first|refine .s1 ?_|(refine .q ?_ ?_<;>intro O)|refine .is ?_|fail
  ·refine Fin.rb ?_;rw[hn];simp_all
  ·refine bK (hj:=by rw[hn];simp_all) (s.length-1) (λk=>[(3, .int .i64 ((k+1:Nat):Int)),(0, .str s)]) (λ_=>⟨[],[]⟩) (λk=>lS s=nmC false (s.drop (k+1))) Z0 λk hk hp=> ?_
   by_cases h1:k+1<s.length
   ·have b:decide (((k+1:Nat):Int)<(s.length:Int))=true:=decide_eq_true om;have x1:=gC h1;have h2:=Rq s[k+1];have h3:=Rr s[k+1];have a:=wC (z:=false) h1
    repeat' first|refine .s1 ?_|(refine .q ?_ ?_<;>intro O)|refine .is ?_|fail
    all_goals first|(refine Fin.rb ?_;rw[hp,a];simp_all;done)|(exact⟨om,Z0,Wg,rfl,rfl,by rw[hp,a];simp_all⟩)
   ·have b:decide (((k+1:Nat):Int)<(s.length:Int))=false:=decide_eq_false om;refine .go ?_;refine Fin.rb ?_;rw[hp,drop_eq_nil_of_le om,nmC]
def zI(l:List AF)(x:AF)(hl:l.length<=9223372036854775807):AN prog 9 [.slice (l.map AV.str) .no, .str x] (.bool (decide (x∈l))):=by
 refine pEn 4 func9 ?_;refine .go ?_;refine bK (hj:=rfl) l.length (λk=>[(5, .int .i64 k),(0, .slice (l.map AV.str) .no),(1, .str x)]) (λ_=>⟨[],[]⟩) (λk=>decide (x∈l)=decide (x∈l.drop k)) Z0 λk hk hp=> ?_
 by_cases h1:k<l.length
 ·have b:=ltT h1;have x1:=aU (f:=AV.str) h1;have a:(x∈l.drop k)↔(x=l[k]\/x∈l.drop (k+1)):=by rw[List.drop_eq_getElem_cons h1,List.mem_cons]
  repeat' first|refine .s1 ?_|(refine .q ?_ ?_<;>intro O)|fail
  ·refine Fin.rb ?_;rw[hp,Eq.comm,decide_eq_true_eq,a];exact .inl (by simpa using Eq.symm Ze)
  ·exact⟨h1,Z0,Wg,rfl,rfl,by
    rw[hp,decide_eq_decide,a];have:¬x=l[k]:=λe=>by rw[<-e]at O;simp at O
    simp[this]⟩
 ·have b:=ltF h1;refine .go ?_;refine Fin.rb ?_;rw[hp,drop_eq_nil_of_le om];simp
def TR{l:Int}(h0:0<=l)(h4:l<=4):IntKind.i64.wrap (2 * 2 ^ min (IntKind.u64.wrap l).toNat IntKind.i64.bits)=2 ^ (l.toNat+1):=by
 have e:l=0\/l=1\/l=2\/l=3\/l=4:=om
 rcases e with rfl|rfl|rfl|rfl|rfl<;>rfl
def Rs{l:Int}(h0:0<=l)(h4:l<=4):0<=IntKind.u64.wrap l:=by
 have e:l=0\/l=1\/l=2\/l=3\/l=4:=om
 rcases e with rfl|rfl|rfl|rfl|rfl<;>decide
def kX(t:Ae)(hs:t.name.length<=9223372036854775806):AN prog 140 [t.C] (.bool (cC t)):=by
 have hn:=Cs t.name hs;refine pEn 2 func140 ?_;by_cases h1:0<=t.ak
 ·have e1:decide (0<=t.ak)=true:=decide_eq_true h1;by_cases h2:t.ak<=4
  ·have a:decide (t.ak<=4)=true:=decide_eq_true h2;by_cases h3:0<=t.ay
   ·have b:decide (0<=t.ay)=true:=decide_eq_true h3
    repeat' first|refine .br ?_|refine .s1 ?_|(refine .q ?_ ?_<;>intro O)|refine gE rfl rfl rfl rfl rfl ?_|refine U1 rfl rfl (Rs h1 h2) (TR h1 h2) ?_|fail
    all_goals
     refine Fin.rb ?_;unfold cC;rw[e1,a,b];simp_all
   ·have b:decide (0<=t.ay)=false:=decide_eq_false h3
    repeat' first|refine .br ?_|refine .s1 ?_|(refine .q ?_ ?_<;>intro O)|fail
    all_goals
     refine Fin.rb ?_;unfold cC;rw[b];simp_all
  ·have a:decide (t.ak<=4)=false:=decide_eq_false h2
   repeat' first|refine .br ?_|refine .s1 ?_|(refine .q ?_ ?_<;>intro O)|fail
   all_goals
    refine Fin.rb ?_;unfold cC;rw[a];simp_all
 ·have e1:decide (0<=t.ak)=false:=decide_eq_false h1
  repeat' first|refine .br ?_|refine .s1 ?_|(refine .q ?_ ?_<;>intro O)|fail
  all_goals
   refine Fin.rb ?_;unfold cC;rw[e1];simp_all
def rIs(t:Ae)(hs:t.name.length<=9223372036854775806):AN prog 95 [t.C] (.bool (isT t)):=by
 have hr:=kX t hs;refine pEn 2 func95 ?_;cases c:cC t with
 |true=>
  rw[c]at hr;have h0:=(fW.1 c).2.2.2.1;have a:=GN c
  repeat' first|refine .br ?_|refine .s1 ?_|(refine .q ?_ ?_<;>intro O)|refine DT (m:=t.ay.toNat) (n:=1) rfl rfl om rfl om Wc (aCm _) ?_|fail
  refine Fin.rb ?_;unfold isT;rw[c,Bool.true_and,Bool.eq_iff_iff,beq_iff_eq,decide_eq_true_eq];omega
 |false=>rw[c]at hr;refine .ac ?_;refine Fin.rb ?_;unfold isT;rw[c];rfl
def KO(t:Ae)(hs:t.name.length<=9223372036854775806):AN prog 171 [t.C] (.tup [(fZ t).1.C, .bool (fZ t).2]):=by
 have hr:=kX t hs;refine pER [.cell 2 59, .tmp 3] func171 ?_;unfold fZ;cases c:cC t with
 |true=>
  rw[c]at hr;obtain⟨_,b,d,e,f⟩:=fW.1 c;by_cases h0:t.ak=0
  ·have a:=beT h0;rw[if_neg (λh=>h.2 h0)];refine .ac ?_;exact aO
  ·have a:=beF h0;rw[if_pos ⟨rfl,h0⟩]
   repeat' first|refine .br ?_|refine .s1 ?_|(refine .q ?_ ?_<;>intro O)|refine J9 rfl rfl Wc OD ?_|fail
   exact aO
 |false=>rw[c]at hr;rw[if_neg (λh=>by cases h.1)];refine .ac ?_;exact aO
end Go.Proofs.YtdodieljpcfpcaaGreatDoor
namespace Go.Av
open Go
section
variable [AK]
variable {P:Program} {A:Array Oper} {G:Bool} {K:AX->AE->St->Prop} {C:List Oper} {I:List Ak} {s:AE} {H:St} {d:Tmp} {R:TypeId} {D:String} {S:Array Edge}
def VX{x y:Operand}{T U:TypeId}{m:Nat}{c:IntKind}(Y:ev? s x=some (.int .i64 a))(hy:ev? s y=some (.int c 6))(ha:a=(m:Int))(f:m<144115188075855872)
  (b:AD P A G K C (.pure::I) ((d, .int .i64 ((m * 64:Nat):Int))::s) H):AD P A G K (⟨some d, .binOp .shl T x y U,R,D,S,none⟩::C) I s H:=
 U1 Y hy Wc (by
  subst ha
  have e:((m:Int) * 2 ^ min (6:Int).toNat IntKind.i64.bits)=((m * 64:Nat):Int):=by
   rw[show min (6:Int).toNat IntKind.i64.bits=6 from rfl,Int.natCast_mul];rfl
  rw[e,C9 om]) b
end
end Go.Av
namespace Go.Proofs.YtdodieljpcfpcaaGreatDoor
open Go Go.Av Go.Proofs.Tryz
attribute [local irreducible] AB AD AN AQ Av.AS AZ
def Gl(c low w:Nat):Nat×Nat:=if c<low\/1114111<c\/(55296<=c/\c<57344) then (0,0) else (c,w)
def Ct(n b0 b1 b2 b3:Nat):Nat×Nat:=
 if b0<128 then (b0,1)
 else if 194<=b0/\b0<224 then (if 2<=n/\(128<=b1/\b1<=191) then Gl (b0 % 32 * 64+b1 % 64) 128 2 else (0,0))
 else if 224<=b0/\b0<240 then (if 3<=n/\(128<=b1/\b1<=191)/\(128<=b2/\b2<=191) then Gl ((b0 % 16 * 64+b1 % 64) * 64+b2 % 64) 2048 3 else (0,0))
 else if 240<=b0/\b0<245 then (if 4<=n/\(128<=b1/\b1<=191)/\(128<=b2/\b2<=191)/\(128<=b3/\b3<=191) then Gl (((b0 % 8 * 64+b1 % 64) * 64+b2 % 64) * 64+b3 % 64) 65536 4 else (0,0))
 else (0,0)
theorem Rt(n a b c b3:Nat)(h0:a<256)(h1:b<256)(h2:c<256)(h3:b3<256):
  Ct n a b c b3=if Lib.decodeN n a b c b3=(65533,1) then (0,0) else Lib.decodeN n a b c b3:=by
 unfold Ct Lib.decodeN Gl
 repeat' split
 all_goals first|rfl|(exfalso;simp only[Prod.mk.injEq]at *; omega)|(simp only[Prod.mk.injEq]at *; omega)|(exfalso;rename_i Y;exact Y rfl)|(exfalso;simp only[Prod.mk.injEq,and_self,and_true,true_and,not_true_eq_false]at *; done)|(exfalso;simp only[Prod.mk.injEq,and_self,and_true,true_and,not_true_eq_false]at *; omega)|(simp only[Prod.mk.injEq,and_self,and_true,true_and]at *; omega)
def kY(l:AF):Nat×Nat:=if Lib.decodeL l=(65533,1) then (0,0) else Lib.decodeL l
theorem Ru(s:AF)(i:Nat):kY (s.drop i)=Ct (s.length-i) (s.getD i 0).toNat (s.getD (i+1) 0).toNat (s.getD (i+2) 0).toNat (s.getD (i+3) 0).toNat:=by unfold kY;rw[Rt _ _ _ _ _ (UInt8.toNat_lt _) (UInt8.toNat_lt _) (UInt8.toNat_lt _) (UInt8.toNat_lt _),Lib.decodeL_N,length_drop,Lib.getD_dropU,Lib.getD_dropU,Lib.getD_dropU,Lib.getD_dropU,Nat.add_zero]
def pC(c:UInt8):IntKind.i64.wrap (c.toNat:Int)=(c.toNat:Int):=C9 (by have:=UInt8.toNat_lt c;omega)
def rF(f:Nat->Nat)(c0:Nat):Nat->Nat
 |0=>c0
 |j+1=>rF f c0 j * 64+f (j+1) % 64
def TS(f:Nat->Nat){a:Nat}(h0:a<32):∀ {j:Nat},j<=3->rF f a j<8388608
 |0,_=>by rw[rF];omega
 |1,_=>by rw[rF,rF];omega
 |2,_=>by rw[rF,rF,rF];omega
 |3,_=>by rw[rF,rF,rF,rF];omega
def fH(s:AF)(i k:Nat):Nat:=(s.getD (i+k) 0).toNat
def H9{s:AF}(h:i+k<s.length):fH s i k=s[i+k].toNat:=by unfold fH;simp[List.getD,h]
def uX(b:Nat):Bool:=decide (128<=b)&&decide (b<=191)
def pD(s:AF)(i:Nat):Nat->Nat->Bool
 |_,0=>true
 |k,n+1=>uX (fH s i k)&&pD s i (k+1) n
def EE(s:AF)(i N LO c0:Nat):Nat×Nat:=if N<=s.length-i then (if pD s i 1 (N-1)=true then Gl (rF (fH s i) c0 (N-1)) LO N else (0,0)) else (0,0)
abbrev N2(p:Nat×Nat):AV := .tup [.int .i64 (p.1:Int), .int .i64 (p.2:Int)]
attribute [local irreducible] Int.decLt Int.decLe Int.le Int.lt in
def TT(N LO c:Nat):AB prog Tryz.f314.ntmps [] (wS 8 (uB Tryz.f314)) (fin [4,5] (λe _=>∃v,e = .ret v/\AC v (N2 (Gl c LO N))))
  [(6, .int .i64 (c:Int)),(7, .int .i64 (N:Int)),(8, .int .i64 (LO:Int))] ⟨[],[]⟩:=by
 by_cases g:c<LO
 ·have a:decide ((c:Int)<(LO:Int))=true:=decide_eq_true om;refine .go ?_;refine cI (AC.eq ?_);rw[Gl,if_pos (.inl g)];rfl
 ·have a:decide ((c:Int)<(LO:Int))=false:=decide_eq_false om;by_cases h:1114111<c
  ·have b:decide ((c:Int)>1114111)=true:=decide_eq_true om;refine .go ?_;refine cI (AC.eq ?_);rw[Gl,if_pos (.inr (.inl h))];rfl
  ·have b:decide ((c:Int)>1114111)=false:=decide_eq_false om;by_cases i:55296<=c
   ·have d:decide ((c:Int)≥55296)=true:=decide_eq_true om;by_cases j:c<57344
    ·have f:decide ((c:Int)<57344)=true:=decide_eq_true om;refine .go ?_;refine cI (AC.eq ?_);rw[Gl,if_pos (.inr (.inr ⟨i,j⟩))];rfl
    ·have f:decide ((c:Int)<57344)=false:=decide_eq_false om;refine .go ?_;refine cI (AC.eq ?_);rw[Gl,if_neg om]
   ·have d:decide ((c:Int)≥55296)=false:=decide_eq_false om;refine .go ?_;refine cI (AC.eq ?_);rw[Gl,if_neg om]
theorem tX{s:AF}{i:Nat}:∀ {n k j:Nat},k<=j->j<k+n->uX (fH s i j)=false->pD s i k n=false
 |0,k,j,h1,h2,_=>by omega
 |n+1,k,j,h1,h2,h=>by
  rw[pD]
  by_cases e:k=j
  ·subst e;rw[h];rfl
  ·rw[tX om om h,Bool.and_false]
theorem EF{s:AF}{i:Nat}:∀ {n k:Nat},(∀j,k<=j->j<k+n->uX (fH s i j)=true)->pD s i k n=true
 |0,_,_=>rfl
 |n+1,k,h=>by
  rw[pD,h k (le_refl _) om,EF λj h1 h2=>h j om om];rfl
attribute [local irreducible] Int.decLt Int.decLe Int.le Int.lt in
def Gm(s:AF)(i N LO a:Nat)(X:i<s.length)(hs:s.length<=4611686018427387904)(w:2<=N/\N<=4)(f:a<32):
  AB prog Tryz.f314.ntmps [] (wS 6 (uB Tryz.f314)) (fin [4,5] (λe _=>∃v,e = .ret v/\AC v (N2 (EE s i N LO a))))
   [(6, .int .i64 (a:Int)),(7, .int .i64 (N:Int)),(8, .int .i64 (LO:Int)),(0, .str s),(1, .int .i64 (i:Int))] ⟨[],[]⟩:=by
 unfold EE;by_cases hn:N<=s.length-i
 ·have m:decide ((N:Int)>(s.length:Int)-(i:Int))=false:=decide_eq_false om;rw[if_pos hn];refine .go ?_;change AB _ _ _ _ _ _ _;refine AB.loop (λn c H=>∃j:Nat,n=N-1-j/\j<=N-1/\(∀k,1<=k->k<=j->uX (fH s i k)=true)/\H=⟨[],[]⟩/\
   c=[(9, .int .i64 ((j+1:Nat):Int)),(7, .int .i64 (N:Int)),(6, .int .i64 ((rF (fH s i) a j:Nat):Int)),(0, .str s),(1, .int .i64 (i:Int)),(8, .int .i64 (LO:Int))])
   (s0:=[(9, .int .i64 ((0+1:Nat):Int)),(7, .int .i64 (N:Int)),(6, .int .i64 ((rF (fH s i) a 0:Nat):Int)),(0, .str s),(1, .int .i64 (i:Int)),(8, .int .i64 (LO:Int))])
   Z0 ⟨0,rfl,Nat.zero_le _,λk h1 h2=>om,rfl,rfl⟩ ?_
  rintro n c H ⟨j,rfl,hj,hcont,rfl,rfl⟩;have l:=TS (fH s i) f (j:=j) om;by_cases h1:j+1<N
  ·have o:decide (((j+1:Nat):Int)<(N:Int))=true:=decide_eq_true om;have hk:i+(j+1)<s.length:=om
   have z:=gC hk;have t:=UInt8.toNat_lt s[i+(j+1)];have d:=H9 (s:=s) (i:=i) (k:=j+1) hk;by_cases x:s[i+(j+1)].toNat<128
   ·have p:decide ((s[i+(j+1)].toNat:Int)<128)=true:=decide_eq_true om;have g:uX (fH s i (j+1))=false:=by rw[d];unfold uX;rw[decide_eq_false om];rfl
    rw[tX (j:=j+1) om om g,if_neg Wc]
    repeat' first|refine .s1 ?_|(refine .q ?_ ?_<;>intro O)|refine bJ (j:=i+(j+1)) ?_|refine gE rfl rfl rfl rfl (pC _) ?_|fail
    exact cI (aG _)
   ·have p:decide ((s[i+(j+1)].toNat:Int)<128)=false:=decide_eq_false om;by_cases y:191<s[i+(j+1)].toNat
    ·have r:decide ((s[i+(j+1)].toNat:Int)>191)=true:=decide_eq_true om;have g:uX (fH s i (j+1))=false:=by rw[d];unfold uX;rw[decide_eq_true om,decide_eq_false om];rfl
     rw[tX (j:=j+1) om om g,if_neg Wc]
     repeat' first|refine .s1 ?_|(refine .q ?_ ?_<;>intro O)|refine bJ (j:=i+(j+1)) ?_|refine gE rfl rfl rfl rfl (pC _) ?_|fail
     exact cI (aG _)
    ·have r:decide ((s[i+(j+1)].toNat:Int)>191)=false:=decide_eq_false om
     repeat' first|refine .s1 ?_|(refine .q ?_ ?_<;>intro O)|refine bJ (j:=i+(j+1)) ?_|refine gE rfl rfl rfl rfl (pC _) ?_|refine VX rfl rfl rfl om ?_|refine DT (n:=63) rfl rfl rfl rfl om Wc (aCV _) ?_|refine aCS rfl rfl rfl rfl om om (aDl _ _ om) ?_|fail
     refine⟨N-1-(j+1),om,[(9, .int .i64 ((j+1+1:Nat):Int)),(7, .int .i64 (N:Int)),(6, .int .i64 ((rF (fH s i) a (j+1):Nat):Int)),(0, .str s),(1, .int .i64 (i:Int)),(8, .int .i64 (LO:Int))],
      ⟨rfl,rfl,by rw[rF,d];rfl,rfl,rfl,rfl,trivial⟩,Wg,rfl,j+1,rfl,om,λk h u=> ?_,rfl,rfl⟩
     by_cases e:k=j+1
     ·subst e;rw[d];unfold uX;rw[decide_eq_true om,decide_eq_true om];rfl
     ·exact hcont k h om
  ·have o:decide (((j+1:Nat):Int)<(N:Int))=false:=decide_eq_false om;obtain rfl:j=N-1:=om
   rw[EF λk h u=>hcont k h om,if_pos rfl];have b:=TT N LO (rF (fH s i) a (N-1))
   repeat' first|(refine AB.weaken b ?_;exact Z0)|refine .s1 ?_|(refine .q ?_ ?_<;>intro O)|fail
 ·have m:decide ((N:Int)>(s.length:Int)-(i:Int))=true:=decide_eq_true om;rw[if_neg hn];refine .go ?_;exact cI (aG _)
theorem Cu{s:AF}(X:i<s.length):kY (s.drop i)=Ct (s.length-i) s[i].toNat (fH s i 1) (fH s i 2) (fH s i 3):=by have g0:fH s i 0=s[i].toNat:=H9 (k:=0) X;rw[Ru, <-g0];rfl
theorem VY{s:AF}(X:i<s.length)(h:194<=s[i].toNat/\s[i].toNat<224):kY (s.drop i)=EE s i 2 128 (s[i].toNat % 32):=by
 rw[Cu X,Ct,if_neg om,if_pos h];unfold EE;simp only[pD,uX,rF,Nat.reduceSub,Bool.and_true,and_eq_true,decide_eq_true_eq];by_cases a:2<=s.length-i
 ·rw[if_pos a];by_cases b:128<=fH s i 1/\fH s i 1<=191
  ·rw[if_pos ⟨a,b⟩,if_pos b]
  ·rw[if_neg (λh=>b h.2),if_neg b]
 ·rw[if_neg (λh=>a h.1),if_neg a]
theorem VZ{s:AF}(X:i<s.length)(h:224<=s[i].toNat/\s[i].toNat<240):kY (s.drop i)=EE s i 3 2048 (s[i].toNat % 16):=by
 rw[Cu X,Ct,if_neg om,if_neg om,if_pos h];unfold EE;simp only[pD,uX,rF,Nat.reduceSub,Bool.and_true,and_eq_true,decide_eq_true_eq];by_cases a:3<=s.length-i
 ·rw[if_pos a];by_cases b:(128<=fH s i 1/\fH s i 1<=191)/\(128<=fH s i 2/\fH s i 2<=191)
  ·rw[if_pos ⟨a,b⟩,if_pos b]
  ·rw[if_neg (λh=>b h.2),if_neg b]
 ·rw[if_neg (λh=>a h.1),if_neg a]
theorem V0{s:AF}(X:i<s.length)(h:240<=s[i].toNat/\s[i].toNat<245):kY (s.drop i)=EE s i 4 65536 (s[i].toNat % 8):=by
 rw[Cu X,Ct,if_neg om,if_neg om,if_neg om,if_pos h];unfold EE;simp only[pD,uX,rF,Nat.reduceSub,Bool.and_true,and_eq_true,decide_eq_true_eq];by_cases a:4<=s.length-i
 ·rw[if_pos a];by_cases b:(128<=fH s i 1/\fH s i 1<=191)/\(128<=fH s i 2/\fH s i 2<=191)/\(128<=fH s i 3/\fH s i 3<=191)
  ·rw[if_pos ⟨a,b⟩,if_pos b]
  ·rw[if_neg (λh=>b h.2),if_neg b]
 ·rw[if_neg (λh=>a h.1),if_neg a]
theorem V2{s:AF}(X:i<s.length)(h:s[i].toNat<128):kY (s.drop i)=(s[i].toNat,1):=by rw[Cu X,Ct,if_pos h]
theorem V3{s:AF}(X:i<s.length)(h0:¬s[i].toNat<128)(h2:¬(194<=s[i].toNat/\s[i].toNat<224))(h3:¬(224<=s[i].toNat/\s[i].toNat<240))(h4:¬(240<=s[i].toNat/\s[i].toNat<245)):kY (s.drop i)=(0,0):=by rw[Cu X,Ct,if_neg h0,if_neg h2,if_neg h3,if_neg h4]
attribute [local irreducible] Int.decLt Int.decLe Int.le Int.lt in
def aCK(s:AF)(i:Nat)(X:i<s.length)(hs:s.length<=4611686018427387904):
  AN prog 314 [.str s, .int .i64 (i:Int)] (N2 (kY (s.drop i))):=by
 have x0:=gC X;have p:=UInt8.toNat_lt s[i];have b:s[i].toNat<9223372036854775808:=om
 have e1:decide ((i:Int)<0)=false:=decide_eq_false om;have t:decide ((i:Int)≥(s.length:Int))=false:=decide_eq_false om;by_cases f:s[i].toNat<128
 ·have m:decide ((s[i].toNat:Int)<128)=true:=decide_eq_true om;rw[V2 X f];refine AQ.plain rfl rfl (cK [4,5] func314 ?_)
  repeat' first|refine .s1 ?_|(refine .q ?_ ?_<;>intro O)|refine bJ ?_|refine gE rfl rfl rfl rfl (pC _) ?_|fail
  exact cI (aG _)
 ·have m:decide ((s[i].toNat:Int)<128)=false:=decide_eq_false om;by_cases g:194<=s[i].toNat/\s[i].toNat<224
  ·have c:decide ((s[i].toNat:Int)≥194)=true:=decide_eq_true om;have d:decide ((s[i].toNat:Int)<224)=true:=decide_eq_true om;have a:=Gm s i 2 128 (s[i].toNat % 32) X hs ⟨Wc,Wc⟩ om;rw[VY X g];refine AQ.plain rfl rfl (cK [4,5] func314 ?_)
   repeat' first|(refine AB.weaken a ?_;exact Z0)|refine .s1 ?_|(refine .q ?_ ?_<;>intro O)|refine bJ ?_|refine gE rfl rfl rfl rfl (pC _) ?_|refine DT (n:=31) rfl rfl rfl rfl b Wc (aCT _) ?_|fail
  ·by_cases h:224<=s[i].toNat/\s[i].toNat<240
   ·have c:decide ((s[i].toNat:Int)≥194)=true:=decide_eq_true om;have d:decide ((s[i].toNat:Int)<224)=false:=decide_eq_false om;have e:decide ((s[i].toNat:Int)≥224)=true:=decide_eq_true om;have k:decide ((s[i].toNat:Int)<240)=true:=decide_eq_true om;have a:=Gm s i 3 2048 (s[i].toNat % 16) X hs ⟨Wc,Wc⟩ om;rw[VZ X h];refine AQ.plain rfl rfl (cK [4,5] func314 ?_)
    repeat' first|(refine AB.weaken a ?_;exact Z0)|refine .s1 ?_|(refine .q ?_ ?_<;>intro O)|refine bJ ?_|refine gE rfl rfl rfl rfl (pC _) ?_|refine DT (n:=15) rfl rfl rfl rfl b Wc (aCU _) ?_|fail
   ·by_cases j:240<=s[i].toNat/\s[i].toNat<245
    ·have c:decide ((s[i].toNat:Int)≥194)=true:=decide_eq_true om;have d:decide ((s[i].toNat:Int)<224)=false:=decide_eq_false om;have e:decide ((s[i].toNat:Int)≥224)=true:=decide_eq_true om;have k:decide ((s[i].toNat:Int)<240)=false:=decide_eq_false om;have l:decide ((s[i].toNat:Int)≥240)=true:=decide_eq_true om;have o:decide ((s[i].toNat:Int)<245)=true:=decide_eq_true om;have a:=Gm s i 4 65536 (s[i].toNat % 8) X hs ⟨Wc,Wc⟩ om;rw[V0 X j];refine AQ.plain rfl rfl (cK [4,5] func314 ?_)
     repeat' first|(refine AB.weaken a ?_;exact Z0)|refine .s1 ?_|(refine .q ?_ ?_<;>intro O)|refine bJ ?_|refine gE rfl rfl rfl rfl (pC _) ?_|refine DT (n:=7) rfl rfl rfl rfl b Wc (Go.Av.aDk _) ?_|fail
    ·rw[V3 X f g h j];refine AQ.plain rfl rfl (cK [4,5] func314 ?_);by_cases r:s[i].toNat<194
     ·have c:decide ((s[i].toNat:Int)≥194)=false:=decide_eq_false om;have e:decide ((s[i].toNat:Int)≥224)=false:=decide_eq_false om;have l:decide ((s[i].toNat:Int)≥240)=false:=decide_eq_false om
      repeat' first|refine .s1 ?_|(refine .q ?_ ?_<;>intro O)|refine bJ ?_|refine gE rfl rfl rfl rfl (pC _) ?_|fail
      exact cI (aG _)
     ·have c:decide ((s[i].toNat:Int)≥194)=true:=decide_eq_true om;have d:decide ((s[i].toNat:Int)<224)=false:=decide_eq_false om;have e:decide ((s[i].toNat:Int)≥224)=true:=decide_eq_true om;have k:decide ((s[i].toNat:Int)<240)=false:=decide_eq_false om;have l:decide ((s[i].toNat:Int)≥240)=true:=decide_eq_true om;have o:decide ((s[i].toNat:Int)<245)=false:=decide_eq_false om
      repeat' first|refine .s1 ?_|(refine .q ?_ ?_<;>intro O)|refine bJ ?_|refine gE rfl rfl rfl rfl (pC _) ?_|fail
      exact cI (aG _)
def PB(s:AF)(i:Nat)(hs:s.length<=4611686018427387904)(X:i<=4611686018427387904):AN prog 313 [.str s, .int .i64 (i:Int)] (.int .i64 (eG (s.drop i))):=by
 refine pEn 4 func313 ?_;have b:=jA (s.drop i);refine .go ?_;refine bK (hj:=by simp) (s.length-i) (λk=>[(5, .int .i64 k),(0, .str s),(1, .int .i64 (i:Int))]) (λ_=>⟨[],[]⟩) (λk=>eG (s.drop i)=k+eG (s.drop (i+k))) Z0 λk hk hp=> ?_
 by_cases h1:i+k<s.length
 ·have a:decide ((i:Int)+(k:Int)<(s.length:Int))=true:=decide_eq_true om;have x1:=gC h1;have c:=Rr s[i+k];have he:=DG h1;repeat' first|refine .s1 ?_|(refine .q ?_ ?_<;>intro O)|refine bJ (j:=i+k) ?_|fail
  ·exact⟨om,Z0,Wg,rfl,rfl,by rw[hp,he,if_pos O];simp only[Nat.add_assoc];omega⟩
  ·refine aP rfl (AC.eq (congrArg (AV.int .i64) ?_));rw[hp,he,if_neg W8];simp
 ·have a:decide ((i:Int)+(k:Int)<(s.length:Int))=false:=decide_eq_false om;refine .go ?_;refine aP rfl (AC.eq (congrArg (AV.int .i64) ?_));rw[hp,drop_eq_nil_of_le om,eG];simp
def KP(s:AF)(i:Nat)(kd:Int):Nat×Int:=if rG (s.drop i)=0 then (i,kd) else (i+rG (s.drop i),4)
def TU{s:AF}(h:i<s.length):rG (s.drop i)=if s[i].toNat=101\/s[i].toNat=69 then
  (if i+1<s.length/\((s.getD (i+1) 0).toNat=43\/(s.getD (i+1) 0).toNat=45) then (if eG (s.drop (i+2))=0 then 0 else 2+eG (s.drop (i+2))) else (if eG (s.drop (i+1))=0 then 0 else 1+eG (s.drop (i+1)))) else 0:=by
 unfold rG GB;have a:(s.drop i).getD 0 0=s[i]:=by rw[List.drop_eq_getElem_cons h];rfl
 have e1:(s.drop i).getD 1 0=s.getD (i+1) 0:=by simp[List.getD]
 rw[a,e1];simp only[List.drop_drop,length_drop];grind
theorem Rv{s:AF}(h:s.length<=i):rG (s.drop i)=0:=by rw[drop_eq_nil_of_le h];rfl
def iK{b:Int}(h:a≠b):(a==b)=false:=WN
def E9{b:Int}(h:a=b):(a==b)=true:=WN
def TV(s:AF)(i:Nat)(n:Int)(hs:s.length<=4611686018427387000)(X:i<=s.length):
  AB prog Tryz.f286.ntmps [] (wS 8 (uB Tryz.f286)) (fin [2,3] (λe _=>∃v,e = .ret v/\AC v (.tup [.int .i64 (KP s i n).1, .int .i64 (KP s i n).2])))
   [(0, .str s),(4, .int .i64 (i:Int)),(6, .int .i64 n)] ⟨[],[]⟩:=by
 unfold KP;by_cases h1:i<s.length
 ·have o:decide ((i:Int)<(s.length:Int))=true:=decide_eq_true om;have x1:=gC h1;have r:=PB s (i+1) om om;have t:=PB s (i+2) om om;have f:=jA (s.drop (i+1));have g:=jA (s.drop (i+2));rw[length_drop]at f g;have a:=TU h1;by_cases q:s[i].toNat=101\/s[i].toNat=69
  ·rw[if_pos q]at a;have e1:((s[i].toNat:Int)==101)=decide (s[i].toNat=101):=by rw[Bool.eq_iff_iff,beq_iff_eq,decide_eq_true_eq];omega
   have d:((s[i].toNat:Int)==69)=decide (s[i].toNat=69):=W2
   by_cases h2:i+1<s.length
   ·have p:decide ((i:Int)+1<(s.length:Int))=true:=decide_eq_true om;have u:=gC h2;rw[JB h2]at a;by_cases b:s[i+1].toNat=43\/s[i+1].toNat=45
    ·rw[if_pos ⟨h2,b⟩]at a;by_cases c:eG (s.drop (i+2))=0
     ·have k:decide (0<(eG (s.drop (i+2)):Int))=false:=decide_eq_false om;rw[if_pos c]at a;rw[if_pos a];rcases q with q|q<;>rcases b with b|b<;>rw[q]at e1 d
      all_goals
       have l:((s[i+1].toNat:Int)==43)=decide (s[i+1].toNat=43):=W2
       have m:((s[i+1].toNat:Int)==45)=decide (s[i+1].toNat=45):=W2
       rw[b]at l m;repeat' first|refine .s1 ?_|(refine .q ?_ ?_<;>intro O)|refine bJ (j:=i) ?_|refine bJ (j:=i+1) ?_|fail
       all_goals first|exact cI (aG _)|(exfalso;simp_all;done)
     ·have k:decide (0<(eG (s.drop (i+2)):Int))=true:=decide_eq_true om;rw[if_neg c]at a;rw[if_neg om,a];rcases q with q|q<;>rcases b with b|b<;>rw[q]at e1 d
      all_goals
       have l:((s[i+1].toNat:Int)==43)=decide (s[i+1].toNat=43):=W2
       have m:((s[i+1].toNat:Int)==45)=decide (s[i+1].toNat=45):=W2
       rw[b]at l m;repeat' first|refine .s1 ?_|(refine .q ?_ ?_<;>intro O)|refine bJ (j:=i) ?_|refine bJ (j:=i+1) ?_|fail
       all_goals first|(refine cI (AC.eq ?_);congr 2;congr 1;omega)|(exfalso;simp_all;done)
    ·rw[if_neg (λh=>b h.2)]at a;have l:((s[i+1].toNat:Int)==43)=false:=iK om;have m:((s[i+1].toNat:Int)==45)=false:=iK om;by_cases c:eG (s.drop (i+1))=0
     ·have k:decide (0<(eG (s.drop (i+1)):Int))=false:=decide_eq_false om;rw[if_pos c]at a;rw[if_pos a];rcases q with q|q<;>rw[q]at e1 d
      all_goals
       repeat' first|refine .s1 ?_|(refine .q ?_ ?_<;>intro O)|refine bJ (j:=i) ?_|refine bJ (j:=i+1) ?_|fail
       all_goals first|exact cI (aG _)|(exfalso;simp_all;done)
     ·have k:decide (0<(eG (s.drop (i+1)):Int))=true:=decide_eq_true om;rw[if_neg c]at a;rw[if_neg om,a];rcases q with q|q<;>rw[q]at e1 d
      all_goals
       repeat' first|refine .s1 ?_|(refine .q ?_ ?_<;>intro O)|refine bJ (j:=i) ?_|refine bJ (j:=i+1) ?_|fail
       all_goals first|(refine cI (AC.eq ?_);congr 2;congr 1;omega)|(exfalso;simp_all;done)
   ·have p:decide ((i:Int)+1<(s.length:Int))=false:=decide_eq_false om;have c:eG (s.drop (i+1))=0:=by rw[drop_eq_nil_of_le om];rfl
    have k:decide (0<(eG (s.drop (i+1)):Int))=false:=decide_eq_false om;rw[if_neg (λh=>h2 h.1),if_pos c]at a;rw[if_pos a];rcases q with q|q<;>rw[q]at e1 d
    all_goals
     repeat' first|refine .s1 ?_|(refine .q ?_ ?_<;>intro O)|refine bJ (j:=i) ?_|fail
     all_goals first|exact cI (aG _)|(exfalso;simp_all;done)
  ·rw[if_neg q]at a;have e1:((s[i].toNat:Int)==101)=false:=iK om;have d:((s[i].toNat:Int)==69)=false:=iK om;rw[if_pos a];repeat' first|refine .s1 ?_|(refine .q ?_ ?_<;>intro O)|refine bJ (j:=i) ?_|fail
   exact cI (aG _)
 ·have o:decide ((i:Int)<(s.length:Int))=false:=decide_eq_false om;rw[if_pos (Rv om)];refine .go ?_;exact cI (aG _)
theorem KQ(d c:UInt8)(r:AF):pfx [d] (c::r)=(c==d):=by rw[Bool.eq_iff_iff];simp[pfx]
def TW(s:AF)(i:Nat)(hs:s.length<=4611686018427387000)(X:i<=s.length):
  AB prog Tryz.f286.ntmps [] (wS 7 (uB Tryz.f286)) (fin [2,3] (λe _=>∃v,e = .ret v/\AC v (.tup [.int .i64 (KP s (C6 s i).1 (C6 s i).2).1, .int .i64 (KP s (C6 s i).1 (C6 s i).2).2])))
   [(0, .str s),(4, .int .i64 (i:Int)),(6, .int .i64 3)] ⟨[],[]⟩:=by
 unfold C6;by_cases h1:i<s.length
 ·have f:decide ((i:Int)<(s.length:Int))=true:=decide_eq_true om;have x1:=gC h1;have k:=PB s (i+1) om om;have c:=jA (s.drop (i+1));rw[length_drop]at c;have b:pfx [46] (s.drop i)=(s[i]==46):=by rw[List.drop_eq_getElem_cons h1,KQ]
  by_cases q:s[i]=46
  ·have e1:((s[i].toNat:Int)==46)=true:=by rw[q];rfl
   rw[b,if_pos Ym];by_cases d:eG (s.drop (i+1))=0
   ·have g:decide (0<(eG (s.drop (i+1)):Int))=false:=decide_eq_false om;rw[if_pos d];have a:=TV s i 3 hs X;repeat' first|(refine AB.weaken a ?_;exact Z0)|refine .s1 ?_|(refine .q ?_ ?_<;>intro O)|refine bJ (j:=i) ?_|fail
   ·have g:decide (0<(eG (s.drop (i+1)):Int))=true:=decide_eq_true om;rw[if_neg d];have a:=TV s (i+1+eG (s.drop (i+1))) 4 hs om;repeat' first|(refine AB.weaken a ?_;exact Z0)|refine .s1 ?_|(refine .q ?_ ?_<;>intro O)|refine bJ (j:=i) ?_|fail
  ·have e1:((s[i].toNat:Int)==46)=false:=iK (λh=>q (UInt8.toNat_inj.1 (by
    have:s[i].toNat=46:=om
    rw[this];rfl)))
   rw[b,if_neg Ym];have a:=TV s i 3 hs X;repeat' first|(refine AB.weaken a ?_;exact Z0)|refine .s1 ?_|(refine .q ?_ ?_<;>intro O)|refine bJ (j:=i) ?_|fail
 ·have f:decide ((i:Int)<(s.length:Int))=false:=decide_eq_false om;have b:pfx [46] (s.drop i)=false:=by rw[drop_eq_nil_of_le om];rfl
  rw[b,if_neg Wc];have a:=TV s i 3 hs X;repeat' first|(refine AB.weaken a ?_;exact Z0)|refine .s1 ?_|(refine .q ?_ ?_<;>intro O)|fail
theorem Jt(s:AF):zN s=if bQ s=0 then (0,0) else KP s (C6 s (bQ s)).1 (C6 s (bQ s)).2:=rfl
def Rx(s:AF)(hs:s.length<=4611686018427387000):AN prog 286 [.str s] (.tup [.int .i64 (zN s).1, .int .i64 (zN s).2]):=by
 refine AQ.plain rfl rfl (cK [2,3] func286 ?_);rw[Jt];by_cases h0:s.length=0
 ·obtain rfl:=List.eq_nil_of_length_eq_zero h0;have hr:=PB [] 0 Wa Wa;have l:eG (([]:AF).drop 0)=0:=rfl;rw[l]at hr;refine .go ?_;exact cI (aG _)
 ·have e:0<s.length:=om
  have m:decide ((0:Int)<(s.length:Int))=true:=decide_eq_true om;have x0:=gC e;have g:pfx [45] s=(s[0]==45):=by
   cases s with
   |nil=>simp at e
   |cons c s=>rw[Bool.eq_iff_iff];simp[pfx]
  have d:∀b:Nat,b<=s.length->bQ s=iF s b->(eG (s.drop b)=0\/((eG (s.drop b):Int)≠0/\∃h:b<s.length,bQ s=if s[b]=48 then b+1 else b+eG (s.drop b))):=λb X hw=>by
   by_cases c:eG (s.drop b)=0
   ·exact .inl c
   ·have f:=jA (s.drop b);rw[length_drop]at f;have hlt:b<s.length:=om
    refine .inr ⟨om,hlt, ?_⟩;rw[hw,iF,if_neg c,gC hlt];simp
  by_cases q:s[0]=45
  ·have e1:((s[0].toNat:Int)==45)=true:=by rw[q];rfl
   have hw:bQ s=iF s 1:=by rw[bQ,g,if_pos Ym]
   have hr:=PB s 1 om om;have f:=jA (s.drop 1);rw[length_drop]at f;rcases d 1 om hw with c|⟨c,hlt,hw2⟩
   ·have i:((eG (s.drop 1):Int)==0)=true:=E9 om;rw[hw,iF,if_pos c,if_pos rfl];repeat' first|refine .s1 ?_|(refine .q ?_ ?_<;>intro O)|refine bJ (j:=0) ?_|fail
    exact cI (aG _)
   ·have i:((eG (s.drop 1):Int)==0)=false:=iK c;have n:=gC hlt;by_cases z:s[1]=48
    ·have k:((s[1].toNat:Int)==48)=true:=by rw[z];rfl
     rw[if_pos z]at hw2;have a:=TW s 2 hs om;rw[hw2,if_neg om];repeat' first|(refine AB.weaken a ?_;exact Z0)|refine .s1 ?_|(refine .q ?_ ?_<;>intro O)|refine bJ (j:=0) ?_|refine bJ (j:=1) ?_|fail
    ·have k:((s[1].toNat:Int)==48)=false:=iK (λh=>z (UInt8.toNat_inj.1 (by
      have:s[1].toNat=48:=om
      rw[this];rfl)))
     rw[if_neg z]at hw2;have a:=TW s (1+eG (s.drop 1)) hs om;rw[hw2,if_neg om];repeat' first|(refine AB.weaken a ?_;exact Z0)|refine .s1 ?_|(refine .q ?_ ?_<;>intro O)|refine bJ (j:=0) ?_|refine bJ (j:=1) ?_|fail
  ·have e1:((s[0].toNat:Int)==45)=false:=iK (λh=>q (UInt8.toNat_inj.1 (by
    have:s[0].toNat=45:=om
    rw[this];rfl)))
   have hw:bQ s=iF s 0:=by rw[bQ,g,if_neg Ym]
   have hr:=PB s 0 om om;have f:=jA (s.drop 0);rw[length_drop]at f;rcases d 0 om hw with c|⟨c,hlt,hw2⟩
   ·have i:((eG (s.drop 0):Int)==0)=true:=E9 om;rw[hw,iF,if_pos c,if_pos rfl];repeat' first|refine .s1 ?_|(refine .q ?_ ?_<;>intro O)|refine bJ (j:=0) ?_|fail
    exact cI (aG _)
   ·have i:((eG (s.drop 0):Int)==0)=false:=iK c;by_cases z:s[0]=48
    ·have k:((s[0].toNat:Int)==48)=true:=by rw[z];rfl
     rw[if_pos z]at hw2;have a:=TW s 1 hs om;rw[hw2,if_neg om];repeat' first|(refine AB.weaken a ?_;exact Z0)|refine .s1 ?_|(refine .q ?_ ?_<;>intro O)|refine bJ (j:=0) ?_|fail
    ·have k:((s[0].toNat:Int)==48)=false:=iK (λh=>z (UInt8.toNat_inj.1 (by
      have:s[0].toNat=48:=om
      rw[this];rfl)))
     rw[if_neg z]at hw2;have a:=TW s (0+eG (s.drop 0)) hs om;rw[hw2,if_neg om];repeat' first|(refine AB.weaken a ?_;exact Z0)|refine .s1 ?_|(refine .q ?_ ?_<;>intro O)|refine bJ (j:=0) ?_|fail
def Cv(s:AF)(hs:s.length<=4611686018427387000):AN prog 233 [.str s] (.int .i64 (m6 s)):=by
 refine pEn 2 func233 ?_;have hn:=Rx s hs;unfold m6;by_cases c:(zN s).1=s.length
 ·have e:(((zN s).1:Int) != (s.length:Int))=false:=by rw[c];simp
  refine .go ?_;refine aP rfl (AC.eq ?_);simp_all
 ·have e:(((zN s).1:Int) != (s.length:Int))=true:=by simp;omega
  refine .go ?_;refine aP rfl (AC.eq ?_);simp_all
end Go.Proofs.YtdodieljpcfpcaaGreatDoor
namespace Go.Av
open Go
section
variable [AK]
variable {P:Program} {A:Array Oper} {G:Bool} {K:AX->AE->St->Prop} {C:List Oper} {I:List Ak} {s:AE} {H:St} {d:Tmp} {R:TypeId} {D:String} {S:Array Edge}
def Vb{x:Operand}{T:TypeId}{k:IntKind}{m r:Int}(h:ev? s x=some (.int k m))(hr:k.wrap (0-m)=r)(e:AD P A G K C (.pure::I) ((d, .int k r)::s) H):
  AD P A G K (⟨some d, .unOp .neg T x,R,D,S,none⟩::C) I s H:=
 bT rfl (eZ λg w a c=>by
  have h1:=c x Wd
  rw[pR h]at h1
  have b:a.eval x = .int k m:=h1
  refine⟨.int k r, ?_,rfl⟩
  subst hr
  simp[execOp,b,Op.unary,Op.intArith]) e
end
end Go.Av
namespace Go.Proofs.YtdodieljpcfpcaaGreatDoor
open Go Go.Av Go.Proofs.Tryz
attribute [local irreducible] AB AD AN AQ Av.AS AZ
def PC(h:l≠[]):fT l=if (kY l).2=0 then false else fT (l.drop (kY l).2):=by
 unfold fT kY;rw[Lib.validD_step l h];have hw:=Lib.decodeL_width l;by_cases c:(Lib.decodeL l).1=65533/\(Lib.decodeL l).2=1
 ·have e:Lib.decodeL l=(65533,1):=Prod.ext c.1 c.2;rw[if_pos c,if_pos e];rfl
 ·have e:Lib.decodeL l≠(65533,1):=λh=>c (by rw[h];exact⟨rfl,rfl⟩)
  rw[if_neg c,if_neg e,if_neg om]
def Ry(h:l≠[]):(kY l).2<=l.length/\(kY l).1<=1114111:=by
 unfold kY;split
 ·simp
 ·exact⟨Lib.decodeL_le l h,Lib.decodeL_rune l⟩
def V4(s:AF)(hs:s.length<=1048576):AN prog 287 [.str s] (.tup [.undef, .bool (fT s)]):=by
 refine AQ.plain rfl rfl (cK [2,3] func287 ?_);refine .go ?_;change AB _ _ _ _ _ _ _;refine eJ 4 false 1 rfl ?_;refine AB.loop (λn d H=>∃(i:Nat) (xs:List Int),n=s.length-i/\i<=s.length/\xs.length<=i/\fT s=fT (s.drop i)/\H=⟨[],[.len xs.length]⟩/\
  d=[(5, .int .i64 (i:Int)),(4, .slice (xs.map (AV.int .i64)) (.own 0 1)),(0, .str s)])
  (s0:=[(5, .int .i64 ((0:Nat):Int)),(4, .slice (([]:List Int).map (AV.int .i64)) (.own 0 1)),(0, .str s)]) Z0 ⟨0,[],rfl,Nat.zero_le _,le_refl _,rfl,rfl,rfl⟩ ?_
 rintro n d H ⟨i,xs,rfl,X,hxs,hp,rfl,rfl⟩;by_cases h1:i<s.length
 ·have g:decide ((i:Int)<(s.length:Int))=true:=decide_eq_true om;have b:s.drop i≠[]:=by intro e;have:=congrArg List.length e;rw[length_drop]at this;simp at this;omega
  have O:=aCK s i h1 om;have a:=PC b;have f:=Ry b;rw[length_drop]at f;unfold N2 at O;by_cases c:(kY (s.drop i)).2=0
  ·have e1:(((kY (s.drop i)).2:Int)==0)=true:=E9 om;refine .go ?_;refine cI (AC.tup (AA.cons (AC.undef _) (AA.cons (AC.eq (congrArg AV.bool ?_)) (aD _))));rw[hp,a,if_pos c]
  ·have e1:(((kY (s.drop i)).2:Int)==0)=false:=iK om;rw[if_neg c,List.drop_drop]at a
   repeat' first|refine .s1 ?_|(refine .q ?_ ?_<;>intro O)|refine bU (n:=xs.length) (length_map ..) ?_|fail
   refine⟨s.length-(i+(kY (s.drop i)).2),om,[(5, .int .i64 ((i+(kY (s.drop i)).2:Nat):Int)),(4, .slice ((xs++[((kY (s.drop i)).1:Int)]).map (AV.int .i64)) (.own 0 1)),(0, .str s)],
    ⟨congrArg (AV.int .i64) om,Xb,rfl,trivial⟩,by simp[aM,AV.aa, -map_append],rfl,i+(kY (s.drop i)).2,xs++[((kY (s.drop i)).1:Int)],rfl,om,by rw[length_append];simp;omega,by rw[hp,a],Y7,rfl⟩
 ·have g:decide ((i:Int)<(s.length:Int))=false:=decide_eq_false om;refine .go ?_;refine cI (AC.tup (AA.cons (AC.undef _) (AA.cons (AC.eq (congrArg AV.bool ?_)) (aD _))));rw[hp,drop_eq_nil_of_le om];rfl
def Ia(s:AF)(hs:s.length<=1048576):AN prog 235 [.str s] (.bool (fT s)):=by have h:=V4 s hs;refine pEn 2 func235 ?_;refine .go ?_;exact bW
end Go.Proofs.YtdodieljpcfpcaaGreatDoor
