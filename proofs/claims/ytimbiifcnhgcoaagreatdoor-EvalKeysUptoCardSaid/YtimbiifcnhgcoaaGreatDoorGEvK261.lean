import Derived.Test.YtimbiifcnhgcoaaGreatDoorGEvK25
import Derived.Test.YtimbiifcnhgcoaaGreatDoorGEvK23
set_option maxRecDepth 100000
set_option maxHeartbeats 16000000
set_option linter.all false
open List (getElem_mem)
open Nat (le_refl strongRecOn)
namespace Go.Proofs.YtimbiifcnhgcoaaGreatDoor
open Go Go.Av Go.Proofs.Tryz
attribute [local irreducible] AB AD AN AI Av.AU AZ EX Int.le Int.lt Int.decLe Int.decLt Int.decEq
instance:Z (default:AP).size:=⟨Wd⟩
class ZS(s:AJ):Prop where
 le:s.size<=1048576
instance {s:AJ}[h:ZS s]:Z s.size:=⟨h.le⟩
def Sw(s:AJ)(n:AG):aC Ag.size (bN s n).1.fields<=s.size/\aC AP.size (bN s n).1.params<=s.size/\dB (bN s n).1.ax<=s.size+1/\dB (bN s n).1.faces<=s.size+1:=by
 rcases G0 s n with h|h|h
 ·have a:=aN (size:=Ah.size) h;have b:∀d:Ah,d.size=d.name.length+dB d.faces+aC Ag.size d.fields+dB d.ax+aC AP.size d.params+5:=λd=>rfl
  rw[b]at a;unfold AJ.size;omega
 all_goals rw[h];simp[yQ,aC,dB]
instance {s:AJ}{n:AG}[h:ZS s]:Z (aC Ag.size (bN s n).1.fields):=⟨by have:=(Sw s n).1;have:=h.le;omega⟩
instance {s:AJ}{n:AG}[h:ZS s]:Z (aC AP.size (bN s n).1.params):=⟨by have:=(Sw s n).2.1;have:=h.le;omega⟩
def aAg(s:AJ)(a b:AG)(h:s.size<=1048576):(aK s a b).1.size<=1048576:=by
 unfold aK;cases e:jW s a b with
 |none=>show uZ.size<=_;decide
 |some f=>
  unfold jW at e;split at e
  ·rename_i c;cases e;dsimp only;rw[c.1];decide
  ·split at e
   ·have:=aN (size:=Ag.size) (List.mem_of_find?_eq_some e);have:=(Sw s a).1;dsimp only;omega
   ·cases e
instance {s:AJ}{a b:AG}[h:ZS s]:Z (aK s a b).1.size:=⟨aAg s a b h.le⟩
instance (s:AJ)(n:AG)[h:ZS s]:EC prog 159 [s.C, .str n] (λ_:Unit => .tup [(bN s n).1.C, .bool (bN s n).2]) λ_=>True:=⟨(),_,trivial,aB _,zK s n h.le⟩
instance (s:AJ)(a b:AG)[h:ZS s]:EC prog 91 [s.C, .str a, .str b] (λ_:Unit => .tup [(aK s a b).1.C, .bool (aK s a b).2]) λ_=>True:=⟨(),_,trivial,aB _,C2 s a b h.le⟩
instance (s:AJ)(n:AG)[h:ZS s]:EC prog 170 [s.C, .str n] (λ_:Unit => .slice ((jG s n).map AV.str) .no) λ_=>True:=⟨(),_,trivial,aB _,uA s n h.le⟩
instance (a:AJ)[h:Z (a.ai.length)]:EC prog 257 [a.C] (λx:List AG => .slice (x.map AV.str) .no) λx=>x.length<=a.ai.length:=by
 have:=h.le
 refine en [2] func257 ?_
 repeat' first|intro _|refine .ad 3 1 ?_|refine .R 3 AV.str (λk=>k) ?_ ?_|refine .v ?_|refine .z ?_ ?_|exact cl|fail
instance (a:List AP)[h:Z (a.length)]:EC prog 261 [.slice (a.map AP.C) .no] (λx:List AG => .slice (x.map AV.str) .no) λx=>x.length<=a.length:=by
 have:=h.le
 refine en [2] func261 ?_
 repeat' first|intro _|refine .ad 3 1 ?_|refine .R 3 AV.str (λk=>k) ?_ ?_|refine .v ?_|refine .z ?_ ?_|exact cl|fail
instance (a:List Ag)[h:Z (a.length)]:EC prog 260 [.slice (a.map Ag.C) .no] (λx:List AG => .slice (x.map AV.str) .no) λx=>x.length<=a.length:=by
 have:=h.le
 refine en [2] func260 ?_
 repeat' first|intro _|refine .ad 3 1 ?_|refine .R 3 AV.str (λk=>k) ?_ ?_|refine .v ?_|refine .z ?_ ?_|exact cl|fail
instance (a:AG):EB 240 [.str a]:=by
 refine en [2] func240 ?_
 exact .j
instance (a:AG):EB 306 [.str a]:=by
 refine en [2] func306 ?_
 exact .j
instance (a:List AG):EB 262 [.slice (a.map AV.str) .no]:=by
 refine en [2] func262 ?_
 exact .j
instance (a:List AG):EB 259 [.slice (a.map AV.str) .no]:=by
 refine en [2] func259 ?_
 exact .j
instance (a:AJ)[ZS a]:EB 197 [a.C]:=by
 refine en [2] func197 ?_
 exact .j
instance (a:AJ)[ZS a](b:AG)(c:Int)(d:Int)(e:Int):EB 207 [a.C, .str b, .int .i64 c, .int .i64 d, .int .i64 e]:=by
 refine en [10] func207 ?_
 exact .j
instance (a:AJ)[ZS a](b:AG):EB 198 [a.C, .str b]:=by
 refine en [4] func198 ?_
 exact .j
instance (a:AJ)[ZS a]:EB 199 [a.C]:=by
 refine en [2] func199 ?_
 exact .j
instance (a:AJ)[ZS a](b:AG):EB 225 [a.C, .str b]:=by
 refine en [4] func225 ?_
 exact .j
instance (a:AJ)[ZS a](b:List AP):EB 263 [a.C, .slice (b.map AP.C) .no]:=by
 refine en [4] func263 ?_
 exact .j
instance (a:AJ)[ZS a](b:AG):EB 131 [a.C, .str b]:=by
 refine en [4] func131 ?_
 exact .j
instance (a:AJ)[ZS a](b:AG):EB 158 [a.C, .str b]:=by
 refine en [4] func158 ?_
 exact .j
instance (a:AJ)[ZS a]:EB 200 [a.C]:=by
 refine en [2] func200 ?_
 exact .j
instance (a:List AP)[h:Z (aC AP.size a)](b:AG):EC prog 133 [.slice (a.map AP.C) .no, .str b] (λx:AP×Bool => .tup [x.1.C, .bool x.2]) λx=>Z x.1.size:=by
 refine enR [.cell 4 136, .tmp 5] func133 ?_
 exact .w
instance (a:AJ)[ZS a]:EB 201 [a.C]:=by
 refine en [2] func201 ?_
 repeat' first|intro _|refine bJ (d:=4) rfl rfl rfl rfl rfl ?_|refine .fz 4 ?_|refine bJ (d:=6) rfl rfl rfl rfl rfl ?_|refine .fz 6 ?_|refine .mA ?_ ?_|refine .v ?_|refine .z ?_ ?_|exact cl|fail
instance (a b:Ac)[h:Z a.size][k:Z b.size]:EC prog 282 [a.C,b.C] (λ_:Unit => .bool (aAy a b)) λ_=>True:=⟨(),_,trivial,aB _,aAQ a b W2 (by have:=(inferInstance:Z b.name.length).le;omega)⟩
instance (a:AJ)[ZS a](b:Ac)[Z b.size](c:Ac)[Z c.size]:EB 307 [a.C,b.C,c.C]:=by
 refine en [6] func307 ?_
 repeat' first|intro _|refine bJ (d:=8) rfl rfl rfl rfl rfl ?_|refine .fz 8 ?_|refine bJ (d:=10) rfl rfl rfl rfl rfl ?_|refine .fz 10 ?_|refine .mA ?_ ?_|refine .v ?_|refine .z ?_ ?_|exact cl|fail
instance (a:AJ)[ZS a](b:Ag)[Z b.size](c:Ag)[Z c.size]:EB 264 [a.C,b.C,c.C]:=by
 refine en [6] func264 ?_
 repeat' first|intro _|refine aBk Td rfl rfl rfl ?_|refine bJ (d:=8) rfl rfl rfl rfl rfl ?_|refine .fz 8 ?_|refine bJ (d:=11) rfl rfl rfl rfl rfl ?_|refine .fz 11 ?_|refine .mA ?_ ?_|refine .v ?_|refine .z ?_ ?_|exact cl|fail
instance (a:AJ)[ZS a]:EB 202 [a.C]:=by
 refine en [2] func202 ?_
 repeat' first|intro _|refine bJ (d:=4) rfl rfl rfl rfl rfl ?_|refine .fz 4 ?_|refine bJ (d:=6) rfl rfl rfl rfl rfl ?_|refine .fz 6 ?_|refine bJ (d:=9) rfl rfl rfl rfl rfl ?_|refine .fz 9 ?_|refine .mA ?_ ?_|refine .v ?_|refine .z ?_ ?_|exact cl|fail
instance (a:AJ)[ZS a]:EB 203 [a.C]:=by
 refine en [2] func203 ?_
 exact .j
def GQ{t:Ac}(h:(fU t).2=true):(fU t).1.an.toNat<t.an.toNat:=by
 unfold fU at h ⊢;by_cases c:cG t=true/\t.an≠0
 ·rw[if_pos c];have a:=(fR.1 c.1).2.1;have b:=c.2;show (t.an-1).toNat<_;omega
 ·rw[if_neg c]at h;cases h
theorem OJ(t:Ac)(h:Z t.size):Z (fU t).1.size:=by
 unfold fU;by_cases c:cG t=true/\t.an≠0
 ·rw[if_pos c];exact h
 ·rw[if_neg c];exact⟨Wd⟩
theorem aAh(s:AJ)[ZS s](l:List AP)[Z (aC AP.size l)](m:List AF)(E:∀(k:Nat) (h:k<m.length) (t:Ac) [Z t.size],EB 279 [s.C,t.C,(m[k]'h).v.C, .bool true]):EB 311 [s.C, .slice (l.map AP.C) .no, .slice (m.map AF.C) .no]:=by
 refine en [6] func311 ?_
 repeat' first|intro _|refine bJ (d:=8) rfl rfl rfl rfl rfl ?_|refine .fz 8 ?_|refine bJ (d:=12) rfl rfl rfl rfl rfl ?_|refine .fz 12 ?_|refine .v ?_|refine .z ?_ ?_|exact cl|fail
theorem aAi(s:AJ)[ZS s]:∀(n m:Nat) (v:AH) (t:Ac),v.size<=n->t.an.toNat<=m->n<=1048576->Z t.size->∀b:Bool,EB 279 [s.C,t.C,v.C, .bool b]:=λn=>by
 induction n using strongRecOn with
 |ind n E=>
  intro m
  induction m using strongRecOn with
  |ind m a=>
   intro v t c ht hn hz b
   have e:(fU t).2=true->∀b,EB 279 [s.C,(fU t).1.C,v.C, .bool b]:=λh b=>a _ (by have:=GQ h;omega) v _ c (le_refl _) hn (OJ t hz) b
   have g:∀k (h:k<v.l.length) (t:Ac) [Z t.size],EB 279 [s.C,t.C,(v.l[k]'h).C, .bool false]:=λk h t hz=>E _ W8 _ _ t (le_refl _) (le_refl _) W8 hz false
   have f:∀k (h:k<v.m.length) (t:Ac) [Z t.size],EB 279 [s.C,t.C,(v.m[k]'h).v.C, .bool true]:=λk h t hz=>E _ W7 _ _ t (le_refl _) (le_refl _) W7 hz true
   have i:=aAh s (bN s t.name).1.params v.m f
   have j:=OJ t hz
   refine en [8] func279 ?_
   repeat' first|intro _|(refine .ce ?_ (h:=e Wh _))|refine bJ (d:=9) rfl rfl rfl rfl rfl ?_|refine .fz 9 ?_|refine bJ (d:=12) rfl rfl rfl rfl rfl ?_|refine .fz 12 ?_|refine .mA ?_ ?_|refine .v ?_|refine .z ?_ ?_|exact cl|fail
instance (s:AJ)[ZS s](t:Ac)[h:Z t.size](v:AH)[k:Z v.size](b:Bool):EB 279 [s.C,t.C,v.C, .bool b]:=aAi s _ _ v t (le_refl _) (le_refl _) k.le h b
instance (a:AJ)[ZS a](b:Ac)[Z b.size](c:AH)[Z c.size]:EB 226 [a.C,b.C,c.C]:=by
 refine en [6] func226 ?_
 exact .j
instance (a:AJ)[ZS a](b:List AP)[Z (aC AP.size b)]:EB 266 [a.C, .slice (b.map AP.C) .no]:=by
 refine en [4] func266 ?_
 exact .j
instance (a:AJ)[ZS a](b:List AP)[Z (aC AP.size b)]:EB 267 [a.C, .slice (b.map AP.C) .no]:=by
 refine en [4] func267 ?_
 exact .j
instance (a:AJ)[ZS a]:EB 205 [a.C]:=by
 refine en [2] func205 ?_
 exact .j
class CK(s:AJ):Prop where
 ok:s.ok
instance (s:AJ)[h:ZS s][k:CK s]:EC prog 204 [s.C] (λ_:Unit => .bool (OR s)) λ_=>True:=⟨(),_,trivial,aB _,aAW s h.le k.ok⟩
instance (a:AJ)[ZS a][CK a](b:Int):EB 129 [a.C, .int .i64 b]:=by
 refine en [4] func129 ?_
 exact .w
structure A7 where
 p:Au
 h:p.x.size<=1048576/\p.aw.length<=1048576
def A7.C(z:A7):AV:=z.p.C
instance {z:A7}:Z z.p.x.size:=⟨z.h.1⟩
def mkZ(t:AG)(x:Sl)[h:Z t.length][k:Z x.size]:A7:=⟨⟨t,x⟩,k.le,h.le⟩
theorem A7.K(z:A7):z.C.K=true:=Au.K z.p
abbrev SpA(t:AG)(x:Sl):AV := .agg [.str t, .int .i64 x.kind, .str x.bm, .str x.name, .slice (x.args.map AF.C) .no, .slice (x.ar.map AO.C) .no, .str x.on, .slice x.sv .no]
instance {L:List A7}{t:AG}{x:Sl}[Z t.length][Z x.size]:Az (L.map A7.C++[SpA t x]) (L++[mkZ t x]) A7.C:=⟨Xp⟩
section
variable {P:Program} {f:FuncId} {x y z:AV} {r:List AV} {α:Type} {E:α->AV} {Q:α->Prop} {γ:Type} {F:γ->AV} {n add lim:Nat}
instance {v:Sl}{t:AG}[Z t.length][Z v.size][h:EC P f (x::(mkZ t v).C::r) E Q]:EC P f (x::SpA t v::r) E Q:=h
end
instance (d:AR)(a:AG)[h:Z d.size]:EC prog 82 [d.C, .str a] (λ_:Unit => .tup [(cM d a).1.C, .bool (cM d a).2]) λ_=>True:=⟨(),_,trivial,aB _,K4 d a (by have:=(inferInstance:Z d.aj.length).le;omega)⟩
instance (a:AJ)[ZS a](b:AG)[Z b.length](c:Sl)[Z c.size]:EC prog 273 [a.C, .str b,c.C] (λx:AG => .str x) λx=>Z x.length:=by
 refine en [6] func273 ?_
 exact .w
instance (a:AJ)[ZS a](b:Ak)[Z b.size]:EC prog 42 [a.C,b.C] (λx:AG => .str x) λx=>Z x.length:=by
 refine en [4] func42 ?_
 exact .w
theorem aAj(s:AJ)[ZS s]:∀(n:Nat) (l:List Sl) (t:AG),aC Sl.size l<=n->n<=1048576->Z t.length->EG prog 214 [s.C, .str t, .slice (l.map Sl.C) .no] A7.C 8 (aC Sl.size l) 1073741824:=λn=>by
 induction n using strongRecOn with
 |ind n E=>
  intro l t i hn hz
  have a:Z (aC Sl.size l):=⟨om⟩
  have e:=λx:Sl=>x.ay
  have b:=E6 (f:=λx:Sl=>aC Sl.size x.O+1) (g:=Sl.size) (λx=>by have:=e x;omega) l
  have j:∀k (h:k<l.length) (t:AG) [Z t.length],EG prog 214 [s.C, .str t, .slice ((l[k]'h).O.map Sl.C) .no] A7.C 8 (aC Sl.size (l[k]'h).O) 1073741824:=λk h t hz=>by
   have c:=aN (size:=Sl.size) (getElem_mem h)
   have d:=e (l[k]'h)
   exact E _ om _ t (le_refl _) om hz
  refine eg 8 func214 (λxs hx=> ?_) (hF:=A7.K)
  repeat' first|intro _|refine .Rw (L:=l) 3 A7.C xs.length (λx=>aC Sl.size x.O+1) ?_ ?_ (hF:=A7.K)|refine .v ?_|refine .z ?_ ?_|exact cl|fail
instance (s:AJ)[ZS s](t:AG)[k:Z t.length](l:List Sl)[h:Z (aC Sl.size l)]:EG prog 214 [s.C, .str t, .slice (l.map Sl.C) .no] A7.C 8 (aC Sl.size l) 1073741824:=aAj s _ l t (le_refl _) h.le k
end Go.Proofs.YtimbiifcnhgcoaaGreatDoor
