/- Joined texts. -/
import Derived.Test.YtdodieljpcfpcaaGreatDoorGEvR24
import Derived.Test.YtdodieljpcfpcaaGreatDoorGEvR19
set_option maxRecDepth 100000
set_option maxHeartbeats 16000000
set_option linter.all false
open Nat (le_refl)
namespace Go.Proofs.YtdodieljpcfpcaaGreatDoor
open Go Go.Av Go.Proofs.Tryz
attribute [local irreducible] AB AD AN AQ Av.AS AZ EX Int.le Int.lt Int.decLe Int.decLt Int.decEq
instance:Z (default:AO).size:=⟨Wc⟩
class ZS(s:AI):Prop where
 le:s.size<=1048576
instance {s:AI}[h:ZS s]:Z s.size:=⟨h.le⟩
def Sh(s:AI)(n:AF):aA Ah.size (bN s n).1.fields<=s.size/\aA AO.size (bN s n).1.params<=s.size/\dA (bN s n).1.aw<=s.size+1/\dA (bN s n).1.faces<=s.size+1:=by
 rcases GO s n with h|h|h
 ·have h1:=aN (size:=Ag.size) h;have h2:∀d:Ag,d.size=d.name.length+dA d.faces+aA Ah.size d.fields+dA d.aw+aA AO.size d.params+5:=λd=>rfl
  rw[h2]at h1;unfold AI.size;omega
 all_goals rw[h];simp[uY,aA,dA]
instance {s:AI}{n:AF}[h:ZS s]:Z (aA Ah.size (bN s n).1.fields):=⟨by have:=(Sh s n).1;have:=h.le;omega⟩
instance {s:AI}{n:AF}[h:ZS s]:Z (aA AO.size (bN s n).1.params):=⟨by have:=(Sh s n).2.1;have:=h.le;omega⟩
def aA0(s:AI)(a b:AF)(h:s.size<=1048576):(aK s a b).1.size<=1048576:=by
 unfold aK;cases e:iW s a b with
 |none=>show qB.size<=_;decide
 |some f=>
  unfold iW at e;split at e
  ·rename_i c;cases e;dsimp only;rw[c.1];decide
  ·split at e
   ·have:=aN (size:=Ah.size) (List.mem_of_find?_eq_some e);have:=(Sh s a).1;dsimp only;omega
   ·cases e
instance {s:AI}{a b:AF}[h:ZS s]:Z (aK s a b).1.size:=⟨aA0 s a b h.le⟩
instance (s:AI)(n:AF)[h:ZS s]:EC prog 162 [s.C, .str n] (λ_:Unit => .tup [(bN s n).1.C, .bool (bN s n).2]) λ_=>True:=⟨(),_,trivial,aD _,DO s n h.le⟩
instance (s:AI)(a b:AF)[h:ZS s]:EC prog 97 [s.C, .str a, .str b] (λ_:Unit => .tup [(aK s a b).1.C, .bool (aK s a b).2]) λ_=>True:=⟨(),_,trivial,aD _,Cz s a b h.le⟩
instance (s:AI)(n:AF)[h:ZS s]:EC prog 172 [s.C, .str n] (λ_:Unit => .slice ((jK s n).map AV.str) .no) λ_=>True:=⟨(),_,trivial,aD _,tZ s n h.le⟩
instance (a:AI)[h:Z (a.ah.length)]:EC prog 257 [a.C] (λx:List AF => .slice (x.map AV.str) .no) λx=>x.length<=a.ah.length:=by
 have:=h.le
 refine en [2] func257 ?_
 repeat' first|intro _|refine .ad 3 1 ?_|refine .R 3 AV.str (λk=>k) ?_ ?_|refine .v ?_|refine .z ?_ ?_|exact cl|fail
instance (a:List AO)[h:Z (a.length)]:EC prog 261 [.slice (a.map AO.C) .no] (λx:List AF => .slice (x.map AV.str) .no) λx=>x.length<=a.length:=by
 have:=h.le
 refine en [2] func261 ?_
 repeat' first|intro _|refine .ad 3 1 ?_|refine .R 3 AV.str (λk=>k) ?_ ?_|refine .v ?_|refine .z ?_ ?_|exact cl|fail
instance (a:List Ah)[h:Z (a.length)]:EC prog 260 [.slice (a.map Ah.C) .no] (λx:List AF => .slice (x.map AV.str) .no) λx=>x.length<=a.length:=by
 have:=h.le
 refine en [2] func260 ?_
 repeat' first|intro _|refine .ad 3 1 ?_|refine .R 3 AV.str (λk=>k) ?_ ?_|refine .v ?_|refine .z ?_ ?_|exact cl|fail
instance (a:AF):EB 241 [.str a]:=by
 refine en [2] func241 ?_
 exact .j
instance (a:AF):EB 305 [.str a]:=by
 refine en [2] func305 ?_
 exact .j
instance (a:List AF):EB 262 [.slice (a.map AV.str) .no]:=by
 refine en [2] func262 ?_
 exact .j
instance (a:List AF):EB 259 [.slice (a.map AV.str) .no]:=by
 refine en [2] func259 ?_
 exact .j
instance (a:AI)[ZS a]:EB 197 [a.C]:=by
 refine en [2] func197 ?_
 exact .j
instance (a:AI)[ZS a](b:AF)(c:Int)(d:Int)(e:Int):EB 207 [a.C, .str b, .int .i64 c, .int .i64 d, .int .i64 e]:=by
 refine en [10] func207 ?_
 exact .j
instance (a:AI)[ZS a](b:AF):EB 198 [a.C, .str b]:=by
 refine en [4] func198 ?_
 exact .j
instance (a:AI)[ZS a]:EB 199 [a.C]:=by
 refine en [2] func199 ?_
 exact .j
instance (a:AI)[ZS a](b:AF):EB 226 [a.C, .str b]:=by
 refine en [4] func226 ?_
 exact .j
instance (a:AI)[ZS a](b:List AO):EB 263 [a.C, .slice (b.map AO.C) .no]:=by
 refine en [4] func263 ?_
 exact .j
instance (a:AI)[ZS a](b:AF):EB 134 [a.C, .str b]:=by
 refine en [4] func134 ?_
 exact .j
instance (a:AI)[ZS a](b:AF):EB 161 [a.C, .str b]:=by
 refine en [4] func161 ?_
 exact .j
instance (a:AI)[ZS a]:EB 200 [a.C]:=by
 refine en [2] func200 ?_
 exact .j
instance (a:List AO)[h:Z (aA AO.size a)](b:AF):EC prog 136 [.slice (a.map AO.C) .no, .str b] (λx:AO×Bool => .tup [x.1.C, .bool x.2]) λx=>Z x.1.size:=by
 refine enR [.cell 4 148, .tmp 5] func136 ?_
 exact .w
instance (a:AI)[ZS a]:EB 201 [a.C]:=by
 refine en [2] func201 ?_
 repeat' first|intro _|refine bH (d:=4) ?_|refine .fz 4 ?_|refine bH (d:=6) ?_|refine .fz 6 ?_|refine .mA ?_ ?_|refine .v ?_|refine .z ?_ ?_|exact cl|fail
instance (a b:Ae)[h:Z a.size][k:Z b.size]:EC prog 283 [a.C,b.C] (λ_:Unit => .bool (aAi a b)) λ_=>True:=⟨(),_,trivial,aD _,V8 a b Wx (by have:=(inferInstance:Z b.name.length).le;omega)⟩
instance (a:AI)[ZS a](b:Ae)[Z b.size](c:Ae)[Z c.size]:EB 306 [a.C,b.C,c.C]:=by
 refine en [6] func306 ?_
 repeat' first|intro _|refine bH (d:=8) ?_|refine .fz 8 ?_|refine bH (d:=10) ?_|refine .fz 10 ?_|refine .mA ?_ ?_|refine .v ?_|refine .z ?_ ?_|exact cl|fail
instance (a:AI)[ZS a](b:Ah)[Z b.size](c:Ah)[Z c.size]:EB 264 [a.C,b.C,c.C]:=by
 refine en [6] func264 ?_
 repeat' first|intro _|refine aB7 SZ rfl rfl rfl ?_|refine bH (d:=8) ?_|refine .fz 8 ?_|refine bH (d:=11) ?_|refine .fz 11 ?_|refine .mA ?_ ?_|refine .v ?_|refine .z ?_ ?_|exact cl|fail
instance (a:AI)[ZS a]:EB 202 [a.C]:=by
 refine en [2] func202 ?_
 repeat' first|intro _|refine bH (d:=4) ?_|refine .fz 4 ?_|refine bH (d:=6) ?_|refine .fz 6 ?_|refine bH (d:=9) ?_|refine .fz 9 ?_|refine .mA ?_ ?_|refine .v ?_|refine .z ?_ ?_|exact cl|fail
instance (a:AI)[ZS a]:EB 203 [a.C]:=by
 refine en [2] func203 ?_
 exact .j
def GI{t:Ae}(h:(fZ t).2=true):(fZ t).1.ak.toNat<t.ak.toNat:=by
 unfold fZ at h ⊢;by_cases c:cC t=true/\t.ak≠0
 ·rw[if_pos c];have h1:=(fW.1 c.1).2.1;have h2:=c.2;show (t.ak-1).toNat<_;omega
 ·rw[if_neg c]at h;cases h
theorem Ow(t:Ae)(h:Z t.size):Z (fZ t).1.size:=by
 unfold fZ;by_cases c:cC t=true/\t.ak≠0
 ·rw[if_pos c];exact h
 ·rw[if_neg c];exact⟨Wc⟩
theorem aA1(s:AI)[ZS s](l:List AO)[Z (aA AO.size l)](m:List AG)(E:∀(k:Nat) (h:k<m.length) (t:Ae) [Z t.size],EB 280 [s.C,t.C,(m[k]'h).v.C, .bool true]):EB 310 [s.C, .slice (l.map AO.C) .no, .slice (m.map AG.C) .no]:=by
 refine en [6] func310 ?_
 repeat' first|intro _|refine bH (d:=8) ?_|refine .fz 8 ?_|refine bH (d:=12) ?_|refine .fz 12 ?_|refine .v ?_|refine .z ?_ ?_|exact cl|fail
theorem aA2(s:AI)[ZS s]:∀(n m:Nat) (v:AH) (t:Ae),v.size<=n->t.ak.toNat<=m->n<=1048576->Z t.size->∀b:Bool,EB 280 [s.C,t.C,v.C, .bool b]:=λn=>by
 induction n using Nat.strongRecOn with
 |ind n E=>
  intro m
  induction m using Nat.strongRecOn with
  |ind m a=>
   intro v t hv ht hn hz b
   have c:(fZ t).2=true->∀b,EB 280 [s.C,(fZ t).1.C,v.C, .bool b]:=λh b=>a _ (by have:=GI h;omega) v _ hv (le_refl _) hn (Ow t hz) b
   have f:∀k (h:k<v.l.length) (t:Ae) [Z t.size],EB 280 [s.C,t.C,(v.l[k]'h).C, .bool false]:=λk h t hz=>E _ W1 _ _ t (le_refl _) (le_refl _) W1 hz false
   have e:∀k (h:k<v.m.length) (t:Ae) [Z t.size],EB 280 [s.C,t.C,(v.m[k]'h).v.C, .bool true]:=λk h t hz=>E _ W0 _ _ t (le_refl _) (le_refl _) W0 hz true
   have g:=aA1 s (bN s t.name).1.params v.m e
   have i:=Ow t hz
   refine en [8] func280 ?_
   repeat' first|intro _|(refine .ce ?_ (h:=c (by assumption) _))|refine bH (d:=9) ?_|refine .fz 9 ?_|refine bH (d:=12) ?_|refine .fz 12 ?_|refine .mA ?_ ?_|refine .v ?_|refine .z ?_ ?_|exact cl|fail
instance (s:AI)[ZS s](t:Ae)[h:Z t.size](v:AH)[k:Z v.size](b:Bool):EB 280 [s.C,t.C,v.C, .bool b]:=aA2 s _ _ v t (le_refl _) (le_refl _) k.le h b
instance (a:AI)[ZS a](b:Ae)[Z b.size](c:AH)[Z c.size]:EB 227 [a.C,b.C,c.C]:=by
 refine en [6] func227 ?_
 exact .j
instance (a:AI)[ZS a](b:List AO)[Z (aA AO.size b)]:EB 266 [a.C, .slice (b.map AO.C) .no]:=by
 refine en [4] func266 ?_
 exact .j
instance (a:AI)[ZS a](b:List AO)[Z (aA AO.size b)]:EB 267 [a.C, .slice (b.map AO.C) .no]:=by
 refine en [4] func267 ?_
 exact .j
instance (a:AI)[ZS a]:EB 205 [a.C]:=by
 refine en [2] func205 ?_
 exact .j
class CL(s:AI):Prop where
 ok:s.ok
instance (s:AI)[h:ZS s][k:CL s]:EC prog 204 [s.C] (λ_:Unit => .bool (OH s)) λ_=>True:=⟨(),_,trivial,aD _,aAE s h.le k.ok⟩
instance (a:AI)[ZS a][CL a](b:Int):EB 132 [a.C, .int .i64 b]:=by
 refine en [4] func132 ?_
 exact .w
structure A8 where
 p:As
 h:p.x.size<=1048576/\p.av.length<=1048576
def A8.C(z:A8):AV:=z.p.C
instance {z:A8}:Z z.p.x.size:=⟨z.h.1⟩
def mkZ(t:AF)(x:Sl)[h:Z t.length][k:Z x.size]:A8:=⟨⟨t,x⟩,k.le,h.le⟩
theorem A8.K(z:A8):z.C.K=true:=As.K z.p
abbrev SpA(t:AF)(x:Sl):AV := .agg [.str t, .int .i64 x.kind, .str x.bn, .str x.name, .slice (x.args.map AG.C) .no, .slice (x.ao.map AM.C) .no, .str x.on, .slice x.sv .no]
instance {L:List A8}{t:AF}{x:Sl}[Z t.length][Z x.size]:Ay (L.map A8.C++[SpA t x]) (L++[mkZ t x]) A8.C:=⟨Xb⟩
section
variable {P:Program} {f:FuncId} {x y z:AV} {r:List AV} {α:Type} {E:α->AV} {Q:α->Prop} {γ:Type} {F:γ->AV} {n add lim:Nat}
instance {v:Sl}{t:AF}[Z t.length][Z v.size][h:EC P f (x::(mkZ t v).C::r) E Q]:EC P f (x::SpA t v::r) E Q:=h
end
instance (d:AR)(a:AF)[h:Z d.size]:EC prog 88 [d.C, .str a] (λ_:Unit => .tup [(cJ d a).1.C, .bool (cJ d a).2]) λ_=>True:=⟨(),_,trivial,aD _,KV d a (by have:=(inferInstance:Z d.ai.length).le;omega)⟩
instance (a:AI)[ZS a](b:AF)[Z b.length](c:Sl)[Z c.size]:EC prog 274 [a.C, .str b,c.C] (λx:AF => .str x) λx=>Z x.length:=by
 refine en [6] func274 ?_
 exact .w
instance (a:AI)[ZS a](b:Aj)[Z b.size]:EC prog 45 [a.C,b.C] (λx:AF => .str x) λx=>Z x.length:=by
 refine en [4] func45 ?_
 exact .w
theorem aA3(s:AI)[ZS s]:∀(n:Nat) (l:List Sl) (t:AF),aA Sl.size l<=n->n<=1048576->Z t.length->EG prog 215 [s.C, .str t, .slice (l.map Sl.C) .no] A8.C 8 (aA Sl.size l) 1073741824:=λn=>by
 induction n using Nat.strongRecOn with
 |ind n E=>
  intro l t hl hn hz
  have a:Z (aA Sl.size l):=⟨om⟩
  have e:=λx:Sl=>x.ax
  have b:=EZ (f:=λx:Sl=>aA Sl.size x.O+1) (g:=Sl.size) (λx=>by have:=e x;omega) l
  have c:∀k (h:k<l.length) (t:AF) [Z t.length],EG prog 215 [s.C, .str t, .slice ((l[k]'h).O.map Sl.C) .no] A8.C 8 (aA Sl.size (l[k]'h).O) 1073741824:=λk h t hz=>by
   have h1:=aN (size:=Sl.size) (List.getElem_mem h)
   have h2:=e (l[k]'h)
   exact E _ om _ t (le_refl _) om hz
  refine eg 8 func215 (λxs Y=> ?_) (hF:=A8.K)
  repeat' first|intro _|refine .Rw (L:=l) 3 A8.C xs.length (λx=>aA Sl.size x.O+1) ?_ ?_ (hF:=A8.K)|refine .v ?_|refine .z ?_ ?_|exact cl|fail
instance (s:AI)[ZS s](t:AF)[k:Z t.length](l:List Sl)[h:Z (aA Sl.size l)]:EG prog 215 [s.C, .str t, .slice (l.map Sl.C) .no] A8.C 8 (aA Sl.size l) 1073741824:=aA3 s _ l t (le_refl _) h.le k
instance (d:AR)[h:Z d.size](s:AI)[ZS s]:EC prog 150 [s.C,d.C] (λx:List A8 => .slice (x.map A8.C) .no) λx=>x.length<=d.size:=by
 have e1:=EZ (f:=λo:Aj=>aA Sl.size o.O) (g:=Aj.size) (λo=>WW) d.ops
 have e2:=EZ (f:=λo:Af=>aA Sl.size o.O) (g:=Af.size) (λo=>Wy) d.ai
 have e3:aA Aj.size d.ops+aA Af.size d.ai<=d.size:=X7
 have:=h.le
 refine en [4] func150 ?_ (hE:=λa=>by simp[AV.K,bF A8.K])
 repeat' first|intro _|refine .ad 5 8 ?_|refine .Rw (L:=d.ops) 5 A8.C 0 (λo=>aA Sl.size o.O) ?_ ?_ (hF:=A8.K)|refine .Rw (L:=d.ai) 5 A8.C (aA (λo:Aj=>aA Sl.size o.O) d.ops) (λo=>aA Sl.size o.O) ?_ ?_ (hF:=A8.K)|refine .v ?_|refine .z ?_ ?_|exact cl|fail
end Go.Proofs.YtdodieljpcfpcaaGreatDoor
