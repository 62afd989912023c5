/- Joined texts. -/
import Derived.Test.YtdodieljpcfpcaaGreatDoorGEvR26
set_option maxRecDepth 100000
set_option maxHeartbeats 16000000
set_option linter.all false
open List (all_eq_true length_append length_map length_nil)
open Nat (le_refl)
open Bool (and_eq_true)
open Classical (axiomOfChoice)
namespace Go.Proofs.YtdodieljpcfpcaaGreatDoor
open Go Go.Av Go.Proofs.Tryz
attribute [local irreducible] AB AD AN AQ Av.AS AZ EX Int.le Int.lt Int.decLe Int.decLt Int.decEq
end Go.Proofs.YtdodieljpcfpcaaGreatDoor
namespace Go.Av
open Go Go.Proofs.YtdodieljpcfpcaaGreatDoor
section
variable [AK] {P:Program} [Lay P] {f:FuncId} {J:List AV} {γ:Type} {F:γ->AV} {z lim:Nat}
def EO(P:Program)(f:FuncId)(J:List AV){γ:Type}(F:γ->AV)(z lim:Nat):Prop:=
 ∃ys:List γ,ys.length<=lim/\AQ P f J ⟨[],[]⟩ (λe σ1=>e = .ret (.slice (ys.map F) (.own 0 z))/\σ1=⟨[],[.len ys.length]⟩)
theorem eo{fn:Func}{c:Code}{N:Nat}(t:Nat)(hf:P.funcs[f]? =some fn)(hF:∀y,(F y).K=true)(h:EX P N [] c (fin [t] (λe σ'=> ∃ys:List γ,ys.length<=lim/\e = .ret (.slice (ys.map F) (.own 0 z))/\(⟨σ'.B.take 0,σ'.T.take 1⟩:St)=⟨[],[.len ys.length]⟩)) (cB 0 J) ⟨[],[]⟩)
  (hb:fn.body=some c:=by exact rfl) (k:fn.ntmps=N:=by exact rfl) (i:(fn.name == "runtime.NumGoroutine")=false:=by exact rfl) (d:Nat.ble J.length N=true:=by exact rfl) (j:fn.results=([t].map ResultVar.tmp).toArray:=by exact rfl):EO P f J F z lim:=by
 by_cases hr:BC N [] (cB 0 J) ⟨[],[]⟩
 ·obtain⟨e,s', σ', hk,O⟩:=h hr;have n:∀ {o},fin [t] o e s' σ'-> AB P N [] c (fin [t] o) (cB 0 J) ⟨[],[]⟩:=λhp=>O.mono λe1 u r ⟨a,b,c⟩=>by subst a b c;exact hp
  have q:∀ys:List γ,Av.ret (gK s' [t]) = .ret (.slice (ys.map F) (.own 0 z))->(⟨σ'.B.take 0,σ'.T.take 1⟩:St)=⟨[],[.len ys.length]⟩->∃v nB mT,Av.ret (gK s' [t]) = .ret v/\0<=nB/\0<=mT/\v.aa nB mT=true/\aQ nB mT (σ'.B.take nB)=true/\aL nB mT (σ'.T.take mT)=true/\(Av.ret v = .ret (.slice (ys.map F) (.own 0 z))/\(⟨σ'.B.take nB,σ'.T.take mT⟩:St)=⟨[],[.len ys.length]⟩):=λys hv hs=>by have m:=hs;simp only[St.mk.injEq]at hs;refine⟨_,0,1,rfl,Nat.zero_le _,Nat.zero_le _, ?_,by rw[hs.1];rfl,by rw[hs.2];rfl,hv,m⟩;rw[Av.ret.inj hv,AV.aa,aC _ _ _ (bF hF ys)];rfl
  cases e with
  |normal=>obtain⟨ys,h1,h2,h3⟩:=hk;exact⟨ys,h1,kV (AQ.enter [t] hf hb k i d j Wa (n (q ys h2 h3)))⟩
  |ret=>obtain⟨ys,h1,h2,h3⟩:=hk;exact⟨ys,h1,kV (AQ.enter [t] hf hb k i d j Wa (n (q ys h2 h3)))⟩
  |pan x=>obtain⟨ys,h1,h2,h3⟩:=hk;cases h2
  |exit id=>exact hk.elim
  |goto l=>exact hk.elim
 ·exact⟨[],Nat.zero_le _,AQ.enter [t] hf hb k i d j Wa (λg w p X hs h1 h2=>absurd ⟨g,w,p,X,hs,h1,h2⟩ hr)⟩
theorem EO.ec(h:EO P f J F z lim)(hF:∀y,(F y).K=true)(ha:aB J=true):EC P f J (λx:List γ => .slice (x.map F) .no) λx=>x.length<=lim:=
 let ⟨ys,h1,h2⟩:=h
 ⟨ys,_,h1,aD _,AQ.plain (by simp[-List.map_map,AV.K,bF hF]) ha (h2.mono λe H h=>⟨_,h.1,AC.no (aD _)⟩)⟩
end
section
variable [AK] {P:Program} [Lay P] {A:Array Oper} {G:Bool} {K:AX->AE->St->Prop} {C:List Oper} {I:List Ak} {s:AE} {H:St} {d:Option Tmp} {R:TypeId} {D:String} {S:Array Edge}
def AD.co{f:FuncId}{args:Array Operand}{p:Array TypeId}{J:List AV}{γ:Type}{F:γ->AV}{z lim:Nat}{B:List Ob}(h:EO P f J F z lim)(hF:∀y,(F y).K=true)(O:aB J=true)(k:∀ys:List γ,ys.length<=lim->AD P A G K C (.all::I) (iJ d (.slice (ys.map F) (.own 0 z)) s) ⟨B,[.len ys.length]⟩)(ha:j7 s args.toList some=some J:=by exact rfl)(hσ:H=⟨B,[]⟩:=by exact rfl):
  AD P A G K (⟨d, .call ⟨.value (.func f),args,p⟩,R,D,S,none⟩::C) I s H:=
 let ⟨ys,h1,h2⟩:=h
 jW hσ ha h2 O (aD _) (by rw[AV.aa,aC _ _ _ (bF hF ys)];rfl) rfl (k ys h1)
end
end Go.Av
namespace Go.Proofs.YtdodieljpcfpcaaGreatDoor
open Go Go.Av Go.Proofs.Tryz
attribute [local irreducible] AB AD AN AQ Av.AS AZ EX Int.le Int.lt Int.decLe Int.decLt Int.decEq
structure Ao where
 p:CY
 h:p.t.size<=1048576/\p.var.length<=1048576
def Ao.C(z:Ao):AV:=z.p.C
instance {z:Ao}:Z z.p.t.size:=⟨z.h.1⟩
instance {z:Ao}:Z z.p.var.length:=⟨z.h.2⟩
theorem Ao.K(z:Ao):z.C.K=true:=rfl
theorem aA6(s:AI)[ZS s]:∀(n m:Nat) (v:AH) (t:Ae),v.size<=n->t.ak.toNat<=m->n<=1048576->Z t.size->∀b:Bool,EC prog 327 [s.C,t.C, .bool b,v.C] (λx:List Ao => .slice (x.map Ao.C) .no) λx=>x.length<=v.size:=λn=>by
 induction n using Nat.strongRecOn with
 |ind n E=>
  intro m
  induction m using Nat.strongRecOn with
  |ind m c=>
   intro v t hv ht hn hz b
   have e:Z v.size:=⟨om⟩
   have hs:=(inferInstance:Z v.s.length).le
   have e1:=v.ax
   have j:=EZ (f:=λx:AG=>x.v.size) (g:=AG.size) (λx=>Xr) v.m
   have i:(fZ t).2=true->∀b,EC prog 327 [s.C,(fZ t).1.C, .bool b,v.C] (λx:List Ao => .slice (x.map Ao.C) .no) λx=>x.length<=v.size:=λh b=>c _ (by have:=GI h;omega) v _ hv (le_refl _) hn (Ow t hz) b
   have o:∀k (h:k<v.l.length) (t:Ae) (b:Bool) [Z t.size],EC prog 327 [s.C,t.C, .bool b,(v.l[k]'h).C] (λx:List Ao => .slice (x.map Ao.C) .no) λx=>x.length<=(v.l[k]'h).size:=λk h t b hz=>E _ W1 _ _ t (le_refl _) (le_refl _) W1 hz b
   have p:∀k (h:k<v.m.length) (t:Ae) (b:Bool) [Z t.size],EC prog 327 [s.C,t.C, .bool b,(v.m[k]'h).v.C] (λx:List Ao => .slice (x.map Ao.C) .no) λx=>x.length<=(v.m[k]'h).v.size:=λk h t b hz=>E _ W0 _ _ t (le_refl _) (le_refl _) W0 hz b
   have q:=Ow t hz
   refine en [8] func327 ?_ (hE:=λa=>Yx)
   repeat' first|intro _|(refine .ce ?_ (h:=i (by assumption) _))|refine bH (d:=9) ?_|refine .fz 9 ?_|refine bH (d:=13) ?_|refine .fz 13 ?_|refine bH (d:=16) ?_|refine .fz 16 ?_|refine .ad 11 5 ?_|refine .Rn 11 Ao.C AH.size ?_ ?_ (hF:=Ao.K)|refine .Rn 11 Ao.C (λx:AG=>x.v.size) ?_ ?_ (hF:=Ao.K)|refine .v ?_|(refine .ap ?_ (hb:=by simp only[length_map,length_nil,length_append]at *; omega) (hb':= by simp only[length_map,length_nil,length_append]at *; omega))|refine .z ?_ ?_|exact fe (a:=[Ao.mk ⟨v.s,t,b⟩ ⟨hz.le,hs⟩]) (hw:=AC.no (aD _))|exact cl|fail
instance (s:AI)[ZS s](t:Ae)[h:Z t.size](b:Bool)(v:AH)[k:Z v.size]:EC prog 327 [s.C,t.C, .bool b,v.C] (λx:List Ao => .slice (x.map Ao.C) .no) λx=>x.length<=v.size:=aA6 s _ _ v t (le_refl _) (le_refl _) k.le h b
instance (a:AI)[ZS a](b:List AO)[Z (aA AO.size b)](c:List AG)[h:Z (aA AG.size c)]:EC prog 311 [a.C, .slice (b.map AO.C) .no, .slice (c.map AG.C) .no] (λx:List Ao => .slice (x.map Ao.C) .no) λx=>x.length<=aA (λy:AG=>y.v.size) c:=by
 have:=Iv c
 have:=h.le
 refine en [6] func311 ?_ (hE:=λa=>Yx)
 repeat' first|intro _|refine bH (d:=9) ?_|refine .fz 9 ?_|refine bH (d:=10) ?_|refine .fz 10 ?_|refine .ad 7 5 ?_|refine .Rn 7 Ao.C (λx:AG=>x.v.size) ?_ ?_ (hF:=Ao.K)|refine .v ?_|(refine .ap ?_ (hb:=by simp only[length_map,length_nil,length_append]at *; omega) (hb':= by simp only[length_map,length_nil,length_append]at *; omega))|refine .z ?_ ?_|exact cl|fail
def aC7(s:AI)[ZS s]:∀(n:Nat) (l:List Sl) (t:AF),aA Sl.size l<=n->n<=1048576->Z t.length->EO prog 281 [s.C, .str t, .slice (l.map Sl.C) .no] Ao.C 5 (aA Sl.size l):=λn=>by
 induction n using Nat.strongRecOn with
 |ind n E=>
  intro l t hl hn ht
  have b:Z (aA Sl.size l):=⟨om⟩
  have e:=λx:Sl=>x.ax
  have e1:=λx:Sl=>Iv x.args
  have a:=λx:Sl=>EZ (f:=λd:AM=>aA (λy:AG=>y.v.size) d.args) (g:=AM.size) (λd=>by have:=Iv d.args;unfold AM.size;omega) x.ao
  have c:=EZ (f:=λx:Sl=>aA (λy:AG=>y.v.size) x.args+aA (λd:AM=>aA (λy:AG=>y.v.size) d.args) x.ao+aA Sl.size x.O) (g:=Sl.size) (λx=>Zo) l
  have i:∀k (h:k<l.length) (t:AF) [Z t.length],EC prog 281 [s.C, .str t, .slice ((l[k]'h).O.map Sl.C) .no] (λx:List Ao => .slice (x.map Ao.C) .no) λx=>x.length<=aA Sl.size (l[k]'h).O:=λk h t ht=>by
   have h1:=aN (size:=Sl.size) (List.getElem_mem h)
   have h2:=e (l[k]'h)
   exact(E _ om _ _ (le_refl _) om ht).ec Ao.K XQ
  refine eo 6 func281 Ao.K ?_
  repeat' first|intro _|refine .ad 7 5 ?_|refine .Rn 7 Ao.C (λx:Sl=>aA (λy:AG=>y.v.size) x.args+aA (λd:AM=>aA (λy:AG=>y.v.size) d.args) x.ao+aA Sl.size x.O) ?_ ?_ (hF:=Ao.K)|refine .Rn 7 Ao.C (λd:AM=>aA (λy:AG=>y.v.size) d.args) ?_ ?_ (hF:=Ao.K)|refine .Rn 7 Ao.C (λd:AM=>aA (λy:AG=>y.v.size) d.args) ?_ ?_ (hF:=Ao.K) (hT:=by simp only[length_append,length_map];exact rfl)|refine .v ?_|(refine .ap ?_ (hb:=by simp only[length_map,length_nil,length_append]at *; omega) (hb':= by simp only[length_map,length_nil,length_append]at *; omega))|refine .z ?_ ?_|exact cl|fail
instance (a:AI)[ZS a](b:AR)[hb:Z b.size](c:Aj)[Z c.size]:EC prog 229 [a.C,b.C,c.C] (λx:List Ao => .slice (x.map Ao.C) .no) λ_=>True:=by
 have i1:∀(t:AF) [k:Z t.length] (l:List Sl) [h:Z (aA Sl.size l)],EO prog 281 [a.C, .str t, .slice (l.map Sl.C) .no] Ao.C 5 1048576:=λt k l h=>let ⟨x,y,z⟩:=aC7 a _ l t (le_refl _) h.le k;⟨x,Nat.le_trans y h.le,z⟩
 have i2:∀(t:AF) [k:Z t.length] (l:List Sl) [h:Z (aA Sl.size l)],EC prog 281 [a.C, .str t, .slice (l.map Sl.C) .no] (λx:List Ao => .slice (x.map Ao.C) .no) λx=>x.length<=1048576:=λt k l h=>(i1 t l).ec Ao.K XQ
 have i3:∀n,Z (aA Sl.size (cJ b n).1.O):=λn=>⟨Y5⟩
 have i4:∀n,Z (cJ b n).1.on.length:=λn=>⟨Y5⟩
 have i5:∀l:List (List UInt8),aA (λ_=>1048576) l=1048576 * l.length:=λl=>by
  induction l with
  |nil=>rfl
  |cons x l E=>rw[aA,E,List.length_cons];omega
 have i6:=i5 (mY b c.O)
 have i7:=zK b c.O
 have i8:b.ai.length<=1048576:=by have:=hb.le;have:=aJ (size:=Af.size) (λf=>Wy) b.ai;unfold AR.size at *; omega
 refine en [6] func229 ?_ (hE:=λa=>Yx)
 repeat' first|intro _|refine bH (d:=10) ?_|refine .fz 10 ?_|refine .co (i1 _ _) Ao.K XQ ?_|refine .Rn 7 Ao.C (λ_=>1048576) ?_ ?_ (hF:=Ao.K)|refine .v ?_|(refine .ap ?_ (hb:=by simp only[length_map,length_nil,length_append]at *; omega) (hb':= by simp only[length_map,length_nil,length_append]at *; omega))|refine .z ?_ ?_|exact cl|fail
instance (a:AI)[ZS a](b:AR)[Z b.size]:EB 156 [a.C,b.C]:=by
 refine en [4] func156 ?_
 exact .j
class CV(d:AR):Prop where
 h:CM d
instance (d:AR)[h:Z d.size]:EC prog 148 [d.C] (λ_:Unit => .bool (oR d)) λ_=>True:=⟨(),_,trivial,aD _,aAD d h.le⟩
instance (s:AI)[h:ZS s](d:AR)[z:Z d.size][f:CV d]:EC prog 157 [s.C,d.C] (λ_:Unit => .bool (Js s d)) λ_=>True:=⟨(),_,trivial,aD _,T8 s d h.le z.le f.h⟩
theorem Uv(a:AI)[ZS a][CL a](b:AR)[Z b.size][CV b](c:Int):EC prog 92 [a.C,b.C, .int .i64 c] (λx:Bool => .bool x) (λx=>c=7->x = !oR b):=by
 refine en [6] func92 ?_ (hQ:=⟨!oR b,λ_=>rfl⟩)
 repeat' first|intro _|refine .v ?_|refine .z ?_ ?_|exact cl|fail
end Go.Proofs.YtdodieljpcfpcaaGreatDoor
namespace Go.Proofs.YtdodieljpcfpcaaGreatDoor
open Go Go.Av Go.Proofs.Tryz
attribute [local irreducible] AB AD AN AQ Av.AS AZ
def Uw{P:Program}{f:FuncId}{vs:List AV}{α:Type}{E:α->AV}{Q:α->Prop}(h:EC P f vs E Q):∃a,Q a/\∃u,AA vs u/\AN P f u (E a):=
 let ⟨a,u,h1,h2,h3⟩:=h.ex
 ⟨a,h1,u,h2,h3⟩
def PY(a:Ag)[h:Z a.size]:∃b,(b=true->lS a.name=true)/\∃u,AA [a.C] u/\AN prog 304 u (.bool b):=by
 cases hn:lS a.name with
 |true=>obtain⟨b,_,h1⟩:=Uw (inferInstance:EB 304 [a.C]);exact⟨b,λ_=>rfl,h1⟩
 |false=>
  refine⟨false,(λh=>Wu),_,aD _, ?_⟩;have q:=Cs a.name Wx;rw[hn]at q;refine pEn 2 func304 ?_ (ha:=by simp[aB,Ag.K])
  repeat' first|refine .br ?_|refine .s1 ?_|(refine .q ?_ ?_<;>intro O)|fail
  all_goals exact bW
def PZ(s:AI)[hz:ZS s]:∃b,(b=true->∀d∈s.ah,lS d.name=true)/\AN prog 258 [s.C] (.bool b):=by
 have hs:=hz.le;have hl:=s.len;have c:∀d:Ag,∃b,d∈s.ah->((b=true->lS d.name=true)/\∃u,AA [d.C] u/\AN prog 304 u (.bool b)):=λd=>by
  by_cases a:d∈s.ah
  ·have:Z d.size:=⟨by have:=lP a;omega⟩;obtain⟨b,h⟩:=PY d;exact⟨b,λ_=>h⟩
  ·exact⟨true,λh=>absurd h a⟩
 obtain⟨R,c⟩:=axiomOfChoice c;have l:=Cs s.query (by have:=(inferInstance:Z s.query.length).le;omega);have m:=Cs s.ar (by have:=(inferInstance:Z s.ar.length).le;omega);refine⟨s.ah.all R&&(lS s.query&&(s.ar==[]||lS s.ar)),λh d a=> ?_, ?_⟩
 ·rw[and_eq_true]at h;exact(c d a).1 (all_eq_true.1 h.1 d a)
 refine pEn 2 func258 ?_ (ha:=by simp[aB,AI.K]);refine .ac ?_;refine lZ s.ah Ag.C R (λk=>[(3, .int .i64 k),(1, .ab s.C)]) (λk h1 j x1 e h2=> ?_) (λi ha=> ?_)
 ·obtain⟨_,u,hw,hr⟩:=c _ e;generalize s.ah[k]=d at *
  generalize R d=r at *
  repeat' first|refine .br ?_|refine aH (hw:=hw) hr ?_|refine .s1 ?_|(refine .q ?_ ?_<;>intro O)|fail
  all_goals first|exact mX|exact nx
 ·rw[ha,Bool.true_and];generalize lS s.query=f at *
  generalize lS s.ar=g at *
  repeat' first|refine .br ?_|refine .s1 ?_|(refine .q ?_ ?_<;>intro O)|fail
  all_goals first|exact mX|exact p5
def CG(s:AI):Prop:=(∀e∈s.ah,dQ s e.name=some e)/\dQ s []=none
def aA7(s:AI)[hz:ZS s]:∃b,(b=true->CG s)/\AN prog 197 [s.C] (.bool b):=by
 have hs:=hz.le;obtain⟨o,f,v⟩:=PZ s;have l:(m8 s).length<=1048576:=by unfold m8;rw[length_map];have:=s.len;omega
 have j:=MC s hs;change AN _ _ _ (.slice ((m8 s).map AV.str) .no) at j;have m:dA (m8 s)<=s.size+1:=by have:=N6 (g:=Ag.name) (size:=Ag.size) (λd=>WA) s.ah;unfold m8;unfold AI.size;omega
 have w:=aCL (m8 s) om;refine⟨(m8 s).all (λn => !kN n)&&(o&&sI (m8 s)),λh=> ?_, ?_⟩
 ·simp only[and_eq_true]at h;obtain⟨h1,h2,h3⟩:=h;have c:(m8 s).Nodup:=by unfold sI OE at h3;simp only[and_eq_true,decide_eq_true_eq]at h3;exact h3.1
  have i:∀e∈s.ah,kN e.name=false:=λe he=>by have:=all_eq_true.1 h1 e.name (List.mem_map.2 ⟨e,he,rfl⟩);simpa using this
  refine⟨λe he=> ?_, ?_⟩
  ·unfold dQ;rw[if_neg (by rw[i e he];decide)];exact M8 c he
  ·unfold dQ;rw[if_neg Wc,List.find?_eq_none];intro e he hn;have a:e.name=[]:=by simpa using hn
   have:=f h2 e he;rw[a]at this;exact absurd this Wc
 refine pEn 2 func197 ?_ (ha:=by simp[aB,AI.K]);refine .ac ?_;refine lZ (m8 s) AV.str (λn => !kN n) (λk=>[(4, .int .i64 k),(3, .slice ((m8 s).map AV.str) .no),(1, .ab s.C)]) (λk h1 u x1 x h2=> ?_) (λt ha=> ?_)
 ·have q:=KS (m8 s)[k];generalize (m8 s)[k]=n at *
  generalize kN n=r at *
  repeat' first|refine .br ?_|refine .s1 ?_|(refine .q ?_ ?_<;>intro O)|fail
  all_goals first|exact mX|exact nx
 ·rw[ha,Bool.true_and];generalize sI (m8 s)=p at *
  repeat' first|refine .br ?_|refine .s1 ?_|(refine .q ?_ ?_<;>intro O)|fail
  all_goals first|exact mX|exact p5
def aA8(s:AI)[hz:ZS s][ho:CL s]:∃R:Int->Bool,(R 1=true->CG s)/\(R 2=true->wX s=true)/\∀n:Int,∃u,AA [s.C, .int .i64 n] u/\AN prog 132 u (.bool (R n)):=by
 have c:∀n:Int,∃b:Bool,(n=1->b=true->CG s)/\(n=2->b=true->wX s=true)/\∃u,AA [s.C, .int .i64 n] u/\AN prog 132 u (.bool b):=λn=>by
  by_cases d:n=1
  ·subst d;obtain⟨b,hb,q⟩:=aA7 s;refine⟨b,λ_=>hb,λh=>om,_,aD _,pEn 4 func132 ?_ (ha:=by simp[aB,AV.K,AI.K])⟩
   repeat' first|refine .br ?_|refine .s1 ?_|(refine .q ?_ ?_<;>intro O)|fail
   all_goals exact bW
  by_cases e:n=2
  ·subst e;have h2:=wJ s s.query hz.le;have f:=wJ s s.ar hz.le;refine⟨wX s,λh=>om,λ_ h=>h,_,aD _,pEn 4 func132 ?_ (ha:=by simp[aB,AV.K,AI.K])⟩;unfold wX;generalize fJ s s.query [1]=g at *
   generalize fJ s s.ar [1]=i at *
   cases j:(s.ar==[])<;>cases k:(s.ar != s.query)
   all_goals
    repeat' first|refine .br ?_|refine .s1 ?_|(refine .q ?_ ?_<;>intro O)|fail
    all_goals first|exact p5|exact mX
  obtain⟨b,_,h1⟩:=Uw (inferInstance:EB 132 [s.C, .int .i64 n]);exact⟨b,λh=>absurd h d,λh=>absurd h e,h1⟩
 obtain⟨R,a⟩:=axiomOfChoice c;exact⟨R,(a 1).1 rfl,(a 2).2.1 rfl,λn=>(a n).2.2⟩
def p9(R:Int->Bool):Nat->Int->Int
 |0,_=>0
 |k+1,n=>if R n=true then p9 R k (n+1) else n
def uD(R:Int->Bool):∀(k:Nat) (n:Int),0<n->p9 R k n=0->∀j:Nat,j<k->R (n+j)=true
 |0,n,_,_,j,hj=>by omega
 |k+1,n,hn,h,j,hj=>by
  rw[p9]at h
  split at h
  ·rename_i hr
   cases j with
   |zero=>simpa using hr
   |succ j=>have:=uD R k (n+1) om h j om;rwa [show n+1+(j:Int)=n+((j+1:Nat):Int) by omega]at this
  ·omega
def Ox(s:AI)[hz:ZS s][ho:CL s]:∃x:Int,(x=0->CG s/\wX s=true)/\AN prog 89 [s.C] (.int .i64 x):=by
 obtain⟨R,f,g,d⟩:=aA8 s;refine⟨p9 R 9 1,λh=>⟨f (uD R 9 1 om h 0 om),g (uD R 9 1 om h 1 om)⟩,pEn 2 func89 ?_ (ha:=by simp[aB,AI.K])⟩;generalize e:p9 R 9 1=X;refine .ac ?_;refine bK (hj:=e.symm) 9 (λk=>[(3, .int .i64 ((k:Int)+1)),(1, .ab s.C)]) (λ_=>⟨[],[]⟩) (λk=>X=p9 R (9-k) ((k:Int)+1)) Z0 λk hk hj=> ?_
 by_cases h3:k<9
 ·have b:decide ((k:Int)+1<=9)=true:=decide_eq_true om;obtain⟨u,hw,h4⟩:=d ((k:Int)+1);have c:9-k=(9-(k+1))+1:=om
  rw[c,p9]at hj;generalize R ((k:Int)+1)=r at *
  repeat' first|refine .br ?_|refine aH (hw:=hw) h4 ?_|refine .s1 ?_|(refine .q ?_ ?_<;>intro O)|fail
  ·refine aP rfl (AC.eq (congrArg (AV.int .i64) ?_));rw[hj,if_neg Xw]
  ·exact⟨h3,Z0,by simp[aM,AV.aa,aF,AI.K],rfl,rfl,by rw[hj,if_pos Xw];rfl⟩
 ·have a:k=9:=om
  subst a;have b:decide (((9:Nat):Int)+1<=9)=false:=Wc
  rw[show 9-9=0 from rfl,p9]at hj;rw[hj]
  repeat' first|refine .br ?_|refine .s1 ?_|(refine .q ?_ ?_<;>intro O)|fail
  exact p5
def Ux(s:AI)[hz:ZS s][ho:CL s]:∃b,(b=true->A5 s)/\AN prog 40 [s.C] (.bool b):=by
 have hs:=hz.le;have hl:=s.len;obtain⟨c,i,O⟩:=Ox s;refine⟨decide (c=0)&&s.ah.all (λd=>d.kind != 1||d.fields.all λf=>(ofB s d.name f).2),λh=> ?_,pEn 2 func40 ?_ (ha:=by simp[aB,AI.K])⟩
 ·rw[and_eq_true,decide_eq_true_eq]at h;obtain⟨h1,h2⟩:=i h.1;refine⟨h1.1,h1.2,h2,λd t hk f hf=> ?_⟩;have:=all_eq_true.1 h.2 d t;rw[hk]at this;exact all_eq_true.1 (by simpa using this) f hf
 by_cases a:c=0
 case neg=>
  have e:(c != 0)=true:=W5
  rw[decide_eq_false a];refine .ac ?_;exact bW
 have e:=bnF a;rw[decide_eq_true a,Bool.true_and];refine .ac ?_;refine lZ s.ah Ag.C (λd=>d.kind != 1||d.fields.all λf=>(ofB s d.name f).2) (λk=>[(3, .int .i64 k),(1, .ab s.C)]) (λk h1 y x1 x h2=> ?_) (λn ha=> ?_)
 case refine_2=>rw[ha];refine .go ?_;exact bW
 have w:=lP x;generalize s.ah[k]=d at *
 have u:=d.lens;have v:=d.b1;cases m:(d.kind==1)
 ·have g:(d.kind != 1)=true:=by unfold bne;rw[m];rfl
  refine .ac ?_;refine bK 0 (λj=>[(4, .int .i64 j),(3, .int .i64 k),(1, .ab s.C)]) (λ_=>⟨[],[]⟩) (λ_=>True) Z0 λj hj _=> ?_
  obtain rfl:j=0:=by omega
  cases o:decide (((0:Nat):Int)<(d.fields.length:Int))
  all_goals
   refine .go ?_;exact nx Y4
 have g:(d.kind != 1)=false:=by unfold bne;rw[m];rfl
 rw[g,Bool.false_or]at h2;refine .ac ?_;refine lZ d.fields Ah.C (λf=>(ofB s d.name f).2) (λj=>[(4, .int .i64 j),(3, .int .i64 k),(1, .ab s.C)]) (λj g1 o x2 l p=> ?_) (λn ha=> ?_)
 ·have z:=aN (size:=Ah.size) l;generalize d.fields[j]=f at *
  have q:=aCN s d.name f hs om;generalize ofB s d.name f=r at *
  obtain⟨b,ok⟩:=r;cases ok with
  |false=>rw[h2 (p rfl)];refine .go ?_;exact bW
  |true=>refine .go ?_;exact nx rfl
 ·refine .go ?_;exact nx (by rw[g,ha];rfl)
def aA9(s:AI)[hz:ZS s][ho:CL s](d:AR)[hd:Z d.size][hf:CV d]:∃b,(b=true->A5 s/\oR d=false)/\AN prog 14 [s.C,d.C] (.bool b):=by
 obtain⟨l,e,v⟩:=Ux s;obtain⟨c,_,w⟩:=Ox s;obtain⟨q,_,z,j,i⟩:=Uw (inferInstance:EB 91 [d.C]);obtain⟨R,g⟩:=axiomOfChoice λn:Int=>Uw (Uv s d n)
 have y:AN prog 41 [s.C,d.C] (.int .i64 (if (c != 0 || !q)=true then 25 else p9 R 24 1)):=by
  refine pEn 4 func41 ?_;by_cases a:(c != 0 || !q)=true
  ·rw[if_pos a]
   repeat' first|refine .br ?_|refine aH (hw:=j) i ?_|refine .s1 ?_|(refine .q ?_ ?_<;>intro O)|fail
   all_goals first|exact p5|(exfalso;simp_all;done)|fail
  rw[if_neg a];generalize t:p9 R 24 1=X
  repeat' first|refine .br ?_|refine aH (hw:=j) i ?_|refine .s1 ?_|(refine .q ?_ ?_<;>intro O)|fail
  all_goals try first|(exfalso;simp_all;done)|fail
  refine bK (hj:=t.symm) 24 (λk=>[(5, .int .i64 ((k:Int)+1)),(2, .ab s.C),(3, .ab d.C)]) (λ_=>_) (λk=>X=p9 R (24-k) ((k:Int)+1)) Z0 λk hk hj=> ?_
  by_cases h3:k<24
  ·have m:decide ((k:Int)+1<=24)=true:=decide_eq_true om;obtain⟨_,u,hw,h4⟩:=g ((k:Int)+1);have o:24-k=(24-(k+1))+1:=om
   rw[o,p9]at hj;generalize R ((k:Int)+1)=r at *
   repeat' first|refine .br ?_|refine aH (hw:=hw) h4 ?_|refine .s1 ?_|(refine .q ?_ ?_<;>intro O)|fail
   ·refine aP rfl (AC.eq (congrArg (AV.int .i64) ?_));rw[hj,if_neg Xw]
   ·exact⟨h3,Z0,by simp[aM,AV.aa,aF,AI.K,AR.K],rfl,rfl,by rw[hj,if_pos Xw];rfl⟩
  ·have f:k=24:=om
   subst f;have m:decide (((24:Nat):Int)+1<=24)=false:=Wc
   rw[show 24-24=0 from rfl,p9]at hj;rw[hj]
   repeat' first|refine .br ?_|refine .s1 ?_|(refine .q ?_ ?_<;>intro O)|fail
   exact p5
 refine⟨l&&((if (c != 0 || !q)=true then 25 else p9 R 24 1)==(0:Int)),λh=> ?_,pEn 4 func14 ?_⟩
 ·rw[and_eq_true,beq_iff_eq]at h;refine⟨e h.1, ?_⟩;have h2:=h.2;split at h2
  ·omega
  ·have p:=uD R 24 1 om h2 6 om;have:=(g (1+((6:Nat):Int))).1 rfl;rw[p]at this;simpa using this.symm
 generalize (if (c != 0 || !q)=true then 25 else p9 R 24 1)=x at *
 repeat' first|refine .br ?_|refine .s1 ?_|(refine .q ?_ ?_<;>intro O)|fail
 all_goals exact p5
end Go.Proofs.YtdodieljpcfpcaaGreatDoor
