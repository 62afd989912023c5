import Derived.Test.YtimbiifcnhgcoaaGreatDoorGEvK262
set_option maxRecDepth 100000
set_option maxHeartbeats 16000000
set_option linter.all false
open List (getElem_mem length_append length_map length_nil)
open Nat (le_refl le_trans strongRecOn zero_le)
namespace Go.Av
open Go Go.Proofs.YtimbiifcnhgcoaaGreatDoor
section
variable [AL] {P:Program} [Lay P] {f:FuncId} {J:List AV} {γ:Type} {F:γ->AV} {z lim:Nat}
def EO(P:Program)(f:FuncId)(J:List AV){γ:Type}(F:γ->AV)(z lim:Nat):Prop:=
 ∃ys:List γ,ys.length<=lim/\AI P f J ⟨[],[]⟩ (λe σ1=>e = .ret (.slice (ys.map F) (.own 0 z))/\σ1=⟨[],[.len ys.length]⟩)
theorem eo{fn:Func}{c:Code}{N:Nat}(t:Nat)(hf:P.funcs[f]? =some fn)(hF:∀y,(F y).K=true)(h:EX P N [] c (fin [t] (λe Y=>∃ys:List γ,ys.length<=lim/\e = .ret (.slice (ys.map F) (.own 0 z))/\(⟨Y.B.take 0,Y.T.take 1⟩:St)=⟨[],[.len ys.length]⟩)) (cD 0 J) ⟨[],[]⟩)
  (hb:fn.body=some c:=by exact rfl) (n:fn.ntmps=N:=by exact rfl) (i:(fn.name == "runtime.NumGoroutine")=false:=by exact rfl) (d:Nat.ble J.length N=true:=by exact rfl) (j:fn.results=([t].map ResultVar.tmp).toArray:=by exact rfl):EO P f J F z lim:=by
 by_cases hr:BA N [] (cD 0 J) ⟨[],[]⟩
 ·obtain⟨e,s', Y,hk,O⟩:=h hr;have r:∀ {o},fin [t] o e s' Y->AB P N [] c (fin [t] o) (cD 0 J) ⟨[],[]⟩:=λhp=>O.mono λe1 s1 a1 ⟨a,b,c⟩=>by subst a b c;exact hp
  have q:∀ys:List γ,Av.ret (gG s' [t]) = .ret (.slice (ys.map F) (.own 0 z))->(⟨Y.B.take 0,Y.T.take 1⟩:St)=⟨[],[.len ys.length]⟩->∃v nB mT,Av.ret (gG s' [t]) = .ret v/\0<=nB/\0<=mT/\v.ab nB mT=true/\aQ nB mT (Y.B.take nB)=true/\aL nB mT (Y.T.take mT)=true/\(Av.ret v = .ret (.slice (ys.map F) (.own 0 z))/\(⟨Y.B.take nB,Y.T.take mT⟩:St)=⟨[],[.len ys.length]⟩):=λys u hs=>by have p:=hs;simp only[St.mk.injEq]at hs;refine⟨_,0,1,rfl,zero_le _,zero_le _, ?_,by rw[hs.1];rfl,by rw[hs.2];rfl,u,p⟩;rw[Av.ret.inj u,AV.ab,aD _ _ _ (bH hF ys)];rfl
  cases e with
  |normal=>obtain⟨ys,m,k,h3⟩:=hk;exact⟨ys,m,kQ (AI.enter [t] hf hb n i d j Wb (r (q ys k h3)))⟩
  |ret=>obtain⟨ys,m,k,h3⟩:=hk;exact⟨ys,m,kQ (AI.enter [t] hf hb n i d j Wb (r (q ys k h3)))⟩
  |pan x=>obtain⟨ys,m,k,h3⟩:=hk;cases k
  |exit id=>exact hk.elim
  |goto l=>exact hk.elim
 ·exact⟨[],zero_le _,AI.enter [t] hf hb n i d j Wb (λg w ac X hs m k=>absurd ⟨g,w,ac,X,hs,m,k⟩ hr)⟩
theorem EO.ec(h:EO P f J F z lim)(hF:∀y,(F y).K=true)(ha:aA J=true):EC P f J (λx:List γ => .slice (x.map F) .no) λx=>x.length<=lim:=
 let ⟨ys,a,b⟩:=h
 ⟨ys,_,a,aB _,AI.plain (by simp[-List.map_map,AV.K,bH hF]) ha (b.mono λe H h=>⟨_,h.1,AC.no (aB _)⟩)⟩
end
section
variable [AL] {P:Program} [Lay P] {A:Array Oper} {G:Bool} {K:AX->AE->St->Prop} {C:List Oper} {I:List Aj} {s:AE} {H:St} {d:Option Tmp} {R:TypeId} {D:String} {S:Array Edge}
def AD.co{f:FuncId}{args:Array Operand}{p:Array TypeId}{J:List AV}{γ:Type}{F:γ->AV}{z lim:Nat}{B:List Ob}(h:EO P f J F z lim)(hF:∀y,(F y).K=true)(O:aA J=true)(k:∀ys:List γ,ys.length<=lim->AD P A G K C (.all::I) (iG d (.slice (ys.map F) (.own 0 z)) s) ⟨B,[.len ys.length]⟩)(ha:jZ s args.toList some=some J:=by exact rfl)(hσ:H=⟨B,[]⟩:=by exact rfl):
  AD P A G K (⟨d, .call ⟨.value (.func f),args,p⟩,R,D,S,none⟩::C) I s H:=
 let ⟨ys,a,b⟩:=h
 jR hσ ha b O (aB _) (by rw[AV.ab,aD _ _ _ (bH hF ys)];rfl) rfl (k ys a)
end
end Go.Av
namespace Go.Proofs.YtimbiifcnhgcoaaGreatDoor
open Go Go.Av Go.Proofs.Tryz
attribute [local irreducible] AB AD AN AI Av.AU AZ EX Int.le Int.lt Int.decLe Int.decLt Int.decEq
structure Ao where
 p:CW
 h:p.t.size<=1048576/\p.var.length<=1048576
def Ao.C(z:Ao):AV:=z.p.C
instance {z:Ao}:Z z.p.t.size:=⟨z.h.1⟩
instance {z:Ao}:Z z.p.var.length:=⟨z.h.2⟩
theorem Ao.K(z:Ao):z.C.K=true:=rfl
theorem aAm(s:AJ)[ZS s]:∀(n m:Nat) (v:AH) (t:Ac),v.size<=n->t.an.toNat<=m->n<=1048576->Z t.size->∀b:Bool,EC prog 328 [s.C,t.C, .bool b,v.C] (λx:List Ao => .slice (x.map Ao.C) .no) λx=>x.length<=v.size:=λn=>by
 induction n using strongRecOn with
 |ind n E=>
  intro m
  induction m using strongRecOn with
  |ind m c=>
   intro v t e ht hn hz b
   have i:Z v.size:=⟨om⟩
   have hs:=(inferInstance:Z v.s.length).le
   have e1:=v.ay
   have o:=E6 (f:=λx:AF=>x.v.size) (g:=AF.size) (λx=>X5) v.m
   have j:(fU t).2=true->∀b,EC prog 328 [s.C,(fU t).1.C, .bool b,v.C] (λx:List Ao => .slice (x.map Ao.C) .no) λx=>x.length<=v.size:=λh b=>c _ (by have:=GQ h;omega) v _ e (le_refl _) hn (OJ t hz) b
   have p:∀k (h:k<v.l.length) (t:Ac) (b:Bool) [Z t.size],EC prog 328 [s.C,t.C, .bool b,(v.l[k]'h).C] (λx:List Ao => .slice (x.map Ao.C) .no) λx=>x.length<=(v.l[k]'h).size:=λk h t b hz=>E _ W8 _ _ t (le_refl _) (le_refl _) W8 hz b
   have q:∀k (h:k<v.m.length) (t:Ac) (b:Bool) [Z t.size],EC prog 328 [s.C,t.C, .bool b,(v.m[k]'h).v.C] (λx:List Ao => .slice (x.map Ao.C) .no) λx=>x.length<=(v.m[k]'h).v.size:=λk h t b hz=>E _ W7 _ _ t (le_refl _) (le_refl _) W7 hz b
   have r:=OJ t hz
   refine en [8] func328 ?_ (hE:=λa=>YE)
   repeat' first|intro _|(refine .ce ?_ (h:=j Wh _))|refine bJ (d:=9) rfl rfl rfl rfl rfl ?_|refine .fz 9 ?_|refine bJ (d:=13) rfl rfl rfl rfl rfl ?_|refine .fz 13 ?_|refine bJ (d:=16) rfl rfl rfl rfl rfl ?_|refine .fz 16 ?_|refine .ad 11 5 ?_|refine .Rn 11 Ao.C AH.size ?_ ?_ (hF:=Ao.K)|refine .Rn 11 Ao.C (λx:AF=>x.v.size) ?_ ?_ (hF:=Ao.K)|refine .v ?_|(refine .ap ?_ (hb:=by simp only[length_map,length_nil,length_append]at *; omega) (hb':= by simp only[length_map,length_nil,length_append]at *; omega))|refine .z ?_ ?_|exact fe (a:=[Ao.mk ⟨v.s,t,b⟩ ⟨hz.le,hs⟩]) (hw:=AC.no (aB _))|exact cl|fail
instance (s:AJ)[ZS s](t:Ac)[h:Z t.size](b:Bool)(v:AH)[k:Z v.size]:EC prog 328 [s.C,t.C, .bool b,v.C] (λx:List Ao => .slice (x.map Ao.C) .no) λx=>x.length<=v.size:=aAm s _ _ v t (le_refl _) (le_refl _) k.le h b
instance (a:AJ)[ZS a](b:List AP)[Z (aC AP.size b)](c:List AF)[h:Z (aC AF.size c)]:EC prog 312 [a.C, .slice (b.map AP.C) .no, .slice (c.map AF.C) .no] (λx:List Ao => .slice (x.map Ao.C) .no) λx=>x.length<=aC (λy:AF=>y.v.size) c:=by
 have:=IG c
 have:=h.le
 refine en [6] func312 ?_ (hE:=λa=>YE)
 repeat' first|intro _|refine bJ (d:=9) rfl rfl rfl rfl rfl ?_|refine .fz 9 ?_|refine bJ (d:=10) rfl rfl rfl rfl rfl ?_|refine .fz 10 ?_|refine .ad 7 5 ?_|refine .Rn 7 Ao.C (λx:AF=>x.v.size) ?_ ?_ (hF:=Ao.K)|refine .v ?_|(refine .ap ?_ (hb:=by simp only[length_map,length_nil,length_append]at *; omega) (hb':= by simp only[length_map,length_nil,length_append]at *; omega))|refine .z ?_ ?_|exact cl|fail
def aCo(s:AJ)[ZS s]:∀(n:Nat) (l:List Sl) (t:AG),aC Sl.size l<=n->n<=1048576->Z t.length->EO prog 280 [s.C, .str t, .slice (l.map Sl.C) .no] Ao.C 5 (aC Sl.size l):=λn=>by
 induction n using strongRecOn with
 |ind n E=>
  intro l t m hn ht
  have b:Z (aC Sl.size l):=⟨om⟩
  have e:=λx:Sl=>x.ay
  have e1:=λx:Sl=>IG x.args
  have a:=λx:Sl=>E6 (f:=λd:AO=>aC (λy:AF=>y.v.size) d.args) (g:=AO.size) (λd=>by have:=IG d.args;unfold AO.size;omega) x.ar
  have c:=E6 (f:=λx:Sl=>aC (λy:AF=>y.v.size) x.args+aC (λd:AO=>aC (λy:AF=>y.v.size) d.args) x.ar+aC Sl.size x.O) (g:=Sl.size) (λx=>Z0) l
  have o:∀k (h:k<l.length) (t:AG) [Z t.length],EC prog 280 [s.C, .str t, .slice ((l[k]'h).O.map Sl.C) .no] (λx:List Ao => .slice (x.map Ao.C) .no) λx=>x.length<=aC Sl.size (l[k]'h).O:=λk h t ht=>by
   have i:=aN (size:=Sl.size) (getElem_mem h)
   have j:=e (l[k]'h)
   exact(E _ om _ _ (le_refl _) om ht).ec Ao.K Ye
  refine eo 6 func280 Ao.K ?_
  repeat' first|intro _|refine .ad 7 5 ?_|refine .Rn 7 Ao.C (λx:Sl=>aC (λy:AF=>y.v.size) x.args+aC (λd:AO=>aC (λy:AF=>y.v.size) d.args) x.ar+aC Sl.size x.O) ?_ ?_ (hF:=Ao.K)|refine .Rn 7 Ao.C (λd:AO=>aC (λy:AF=>y.v.size) d.args) ?_ ?_ (hF:=Ao.K)|refine .Rn 7 Ao.C (λd:AO=>aC (λy:AF=>y.v.size) d.args) ?_ ?_ (hF:=Ao.K) (hT:=by simp only[length_append,length_map];exact rfl)|refine .v ?_|(refine .ap ?_ (hb:=by simp only[length_map,length_nil,length_append]at *; omega) (hb':= by simp only[length_map,length_nil,length_append]at *; omega))|refine .z ?_ ?_|exact cl|fail
instance (a:AJ)[ZS a](b:AR)[hb:Z b.size](c:Ak)[Z c.size]:EC prog 228 [a.C,b.C,c.C] (λx:List Ao => .slice (x.map Ao.C) .no) λ_=>True:=by
 have i1:∀(t:AG) [k:Z t.length] (l:List Sl) [h:Z (aC Sl.size l)],EO prog 280 [a.C, .str t, .slice (l.map Sl.C) .no] Ao.C 5 1048576:=λt k l h=>let ⟨x,y,z⟩:=aCo a _ l t (le_refl _) h.le k;⟨x,le_trans y h.le,z⟩
 have i2:∀(t:AG) [k:Z t.length] (l:List Sl) [h:Z (aC Sl.size l)],EC prog 280 [a.C, .str t, .slice (l.map Sl.C) .no] (λx:List Ao => .slice (x.map Ao.C) .no) λx=>x.length<=1048576:=λt k l h=>(i1 t l).ec Ao.K Ye
 have i3:∀n,Z (aC Sl.size (cM b n).1.O):=λn=>⟨YK⟩
 have i4:∀n,Z (cM b n).1.on.length:=λn=>⟨YK⟩
 have i5:∀l:List (List UInt8),aC (λ_=>1048576) l=1048576 * l.length:=λl=>by
  induction l with
  |nil=>rfl
  |cons x l E=>rw[aC,E,List.length_cons];omega
 have i6:=i5 (mX b c.O)
 have i7:=zM b c.O
 have i8:b.aj.length<=1048576:=by have:=hb.le;have:=aJ (size:=Af.size) (λf=>W5) b.aj;unfold AR.size at *; omega
 refine en [6] func228 ?_ (hE:=λa=>YE)
 repeat' first|intro _|refine bJ (d:=10) rfl rfl rfl rfl rfl ?_|refine .fz 10 ?_|refine .co (i1 _ _) Ao.K Ye ?_|refine .Rn 7 Ao.C (λ_=>1048576) ?_ ?_ (hF:=Ao.K)|refine .v ?_|(refine .ap ?_ (hb:=by simp only[length_map,length_nil,length_append]at *; omega) (hb':= by simp only[length_map,length_nil,length_append]at *; omega))|refine .z ?_ ?_|exact cl|fail
instance (a:AJ)[ZS a](b:AR)[Z b.size]:EB 153 [a.C,b.C]:=by
 refine en [4] func153 ?_
 exact .j
class CU(d:AR):Prop where
 h:CQ d
instance (d:AR)[h:Z d.size]:EC prog 145 [d.C] (λ_:Unit => .bool (oU d)) λ_=>True:=⟨(),_,trivial,aB _,aAV d h.le⟩
instance (s:AJ)[h:ZS s](d:AR)[z:Z d.size][f:CU d]:EC prog 154 [s.C,d.C] (λ_:Unit => .bool (JC s d)) λ_=>True:=⟨(),_,trivial,aB _,Ui s d h.le z.le f.h⟩
theorem UF(a:AJ)[ZS a][CK a](b:AR)[Z b.size][CU b](c:Int):EC prog 86 [a.C,b.C, .int .i64 c] (λx:Bool => .bool x) (λx=>c=7->x = !oU b):=by
 refine en [6] func86 ?_ (hQ:=⟨!oU b,λ_=>rfl⟩)
 repeat' first|intro _|refine .v ?_|refine .z ?_ ?_|exact cl|fail
end Go.Proofs.YtimbiifcnhgcoaaGreatDoor
