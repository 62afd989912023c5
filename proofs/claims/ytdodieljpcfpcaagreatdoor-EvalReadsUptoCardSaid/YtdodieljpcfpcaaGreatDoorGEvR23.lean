/- Joined texts. -/
import Derived.Test.YtdodieljpcfpcaaGreatDoorGEvR21
set_option maxRecDepth 100000
set_option maxHeartbeats 16000000
set_option linter.all false
open List (drop_zero getElem_mem map_set take_of_length_le)
open Nat (zero_add zero_le)
open Go Go.Av Go.Proofs.YtdodieljpcfpcaaGreatDoor Go.Proofs.Tryz
variable{α:Type}{s':AE}{y:AV}{a:Array Oper}{b:Bool}{x z:Code}{fn:Func}{f:FuncId}{z0:Int}{xs ys:List AV}{id j n k:Nat}{σ':St}{t:Tk}{Q:α->Prop}
namespace Go.Proofs.YtdodieljpcfpcaaGreatDoor
open Go Go.Av Go.Proofs.Tryz
attribute [local irreducible] AB AD AN AQ Av.AS AZ
def Oq{x y:AV}(h:AC x y):∀ {xs:List AV} (i:Nat),AA (xs.set i x) (xs.set i y)
 |[],i=>aD _
 |z::xs,0=>AA.cons h (aD _)
 |z::xs,i+1=>AA.cons (aG _) (Oq h i)
def aC0(l:List AY)(name:AF)(r:Row)(hl:l.length<=1048576)(hr:∀t∈l,t.af.length<=1048576):
  AN prog 166 [Tbls.C l, .str name,r.C] (Tbls.C (sM l name r)):=by
 refine jI (Tbls.K _) YV (cK [6] func166 ?_);have hp:=ML l name om;have a:(l.map AY.C).length=l.length:=Wa
 rcases mR (λt:AY=>t.name==name) l 0 with⟨h1,h2⟩|⟨i,X,h1,h2,h0⟩
 ·rw[h1]at hp;repeat' first|refine dB ?_|refine .seq ?_|refine .rg ?_|refine .rd ?_|refine .block ?_|refine .scope ?_|refine .skip ?_|refine .label ?_|refine .exit ?_|refine .ret ?_|refine .ct ?_|refine .cf ?_|refine .cy ?_|refine .cn ?_|(refine .cond rfl ?_ ?_<;>intro O)|refine cS ?_|refine .nl ?_|refine .dd ?_|refine .ys ?_|refine .no ?_|(refine fL rfl ?_ ?_<;>intro O)|refine .lb ?_|refine .ln ?_|refine .ls ?_|refine .pv ?_|refine .ix ?_|refine .pt ?_|refine .pf ?_|refine .bx ?_|refine .al ?_|refine .st ?_|refine .ad ?_|refine .sb ?_|refine .mf ?_|refine .cl ?_|refine .cw ?_|refine .ck ?_|refine dH (m:=l.length) (nX l) a ?_|refine aH hp ?_|refine eI (m:=l.length+1) (hb':= by omega) a ?_|fail
  refine⟨_,_,rfl,(b6 rfl Wa rfl).trans (AJ.a6 (AC.no ?_))⟩;have e:sM l name r=l++[⟨name,[r]⟩]:=by unfold sM;rw[h2]
  rw[e,drop_zero,take_of_length_le Wa,List.map_append];exact QH (aD _) OL
 ·rw[h1]at hp;simp only[zero_add]at hp;have x1:=aU (f:=AY.C) X;have n:=hr _ (getElem_mem X);have j:=aAL l[i].af r.key om;have d:(l[i].af.map Row.C).length=l[i].af.length:=by simp
  have e:sM l name r=l.set i ⟨l[i].name,jC l[i].af r⟩:=by unfold sM;rw[h2];exact sL X _
  have b:Al ⟨[],[.Y (l.map AY.C), .Y (l[i].af.map Row.C)]⟩ [.Y 1 4 l[i].af.length 0 l[i].af.length, .str r.key] [.slice (l[i].af.map Row.C) .no, .str r.key]:=
   Al.cons (A1.a6 (aG _) (by have h:=A1.Y (H:=⟨[],[.Y (l.map AY.C), .Y (l[i].af.map Row.C)]⟩) (k:=1) (z:=4) (lo:=0) (X:=l[i].af.length) rfl d (Al.K (mQ _));rwa [drop_zero,take_of_length_le om]at h)) (Al.cons (A1.K rfl) Al.nil)
  rcases mR (λx:Row=>x.key==r.key) l[i].af 0 with⟨h3,h4⟩|⟨k,hk,h3,h4,h5⟩
  ·rw[h3]at j;have g:jC l[i].af r=l[i].af++[r]:=by unfold jC;rw[h4]
   repeat' first|refine dB ?_|refine .seq ?_|refine .rg ?_|refine .rd ?_|refine .block ?_|refine .scope ?_|refine .skip ?_|refine .label ?_|refine .exit ?_|refine .ret ?_|refine .ct ?_|refine .cf ?_|refine .cy ?_|refine .cn ?_|(refine .cond rfl ?_ ?_<;>intro O)|refine cS ?_|refine .nl ?_|refine .dd ?_|refine .ys ?_|refine .no ?_|(refine fL rfl ?_ ?_<;>intro O)|refine .lb ?_|refine .ln ?_|refine .ls ?_|refine .pv ?_|refine .ix ?_|refine .pt ?_|refine .pf ?_|refine .bx ?_|refine .al ?_|refine .st ?_|refine .ad ?_|refine .sb ?_|refine .mf ?_|refine .cl ?_|refine .cw ?_|refine .ck ?_|refine dH (m:=l.length) (nX l) a ?_|refine aH hp ?_|refine xO rfl j b rfl ?_|refine dH (m:=l[i].af.length) (oG _) d ?_|refine fM ?_|refine j8 ?_|refine fF ?_|refine jH ?_|refine eI (m:=l[i].af.length+1) (hb':= by omega) d ?_|refine aX (agg:=true) (hn:=a) (he:=x1) ?_|fail
   refine⟨_,_,rfl,(cU (k:=0) (i:=i) (c:=1) rfl Zf rfl (b6 rfl Wa rfl) rfl rfl).trans ((b6 rfl Wa rfl).trans (AJ.a6 (AC.no (AA.eq ?_))))⟩;rw[e,g,drop_zero,take_of_length_le Wa,List.set_set,map_set];congr 1;simp only[AY.C,List.set_cons_succ,List.set_cons_zero,drop_zero,List.map_append,List.map_cons,List.map_nil];rw[take_of_length_le Wa];rfl
  ·rw[h3]at j;simp only[zero_add]at j;have o:=aU (f:=Row.C) hk;have p:decide ((k:Int)<0)=false:=by simp
   have g:jC l[i].af r=l[i].af.set k r:=by unfold jC;rw[h4]
   repeat' first|refine dB ?_|refine .seq ?_|refine .rg ?_|refine .rd ?_|refine .block ?_|refine .scope ?_|refine .skip ?_|refine .label ?_|refine .exit ?_|refine .ret ?_|refine .ct ?_|refine .cf ?_|refine .cy ?_|refine .cn ?_|(refine .cond rfl ?_ ?_<;>intro O)|refine cS ?_|refine .nl ?_|refine .dd ?_|refine .ys ?_|refine .no ?_|(refine fL rfl ?_ ?_<;>intro O)|refine .lb ?_|refine .ln ?_|refine .ls ?_|refine .pv ?_|refine .ix ?_|refine .pt ?_|refine .pf ?_|refine .bx ?_|refine .al ?_|refine .st ?_|refine .ad ?_|refine .sb ?_|refine .mf ?_|refine .cl ?_|refine .cw ?_|refine .ck ?_|refine dH (m:=l.length) (nX l) a ?_|refine aH hp ?_|refine xO rfl j b rfl ?_|refine dH (m:=l[i].af.length) (oG _) d ?_|refine fM ?_|refine j8 ?_|refine fF ?_|refine jH ?_|refine aX (agg:=true) (hn:=d) (he:=o) ?_|refine aX (agg:=true) (hn:=a) (he:=x1) ?_|fail
   refine⟨_,_,rfl,(cU (k:=0) (i:=i) (c:=1) rfl Zf rfl (b6 rfl Wa rfl) rfl rfl).trans ((b6 rfl Wa rfl).trans (AJ.a6 (AC.no (AA.eq ?_))))⟩;rw[e,g,drop_zero,take_of_length_le Wa,List.set_set,map_set];congr 1;simp only[AY.C,List.set_cons_succ,List.set_cons_zero,drop_zero,map_set];rw[take_of_length_le Wa];rfl
def aDm(l:List AY)(name a:AF)(hl:l.length<=1048576)(hr:∀t∈l,t.af.length<=1048576):
  AN prog 168 [Tbls.C l, .str name, .str a] (Tbls.C (w5 l name a)):=by
 refine jI (Tbls.K _) XW (cK [6] func168 ?_);have hp:=ML l name om;have b:(l.map AY.C).length=l.length:=Wa
 rcases mR (λt:AY=>t.name==name) l 0 with⟨h1,h2⟩|⟨i,X,h1,h2,h0⟩
 ·rw[h1]at hp;have e:w5 l name a=l:=by unfold w5;rw[h2]
  rw[e];repeat' first|refine .seq ?_|refine .rg ?_|refine .rd ?_|refine .block ?_|refine .scope ?_|refine .skip ?_|refine .label ?_|refine .exit ?_|refine .ret ?_|refine .ct ?_|refine .cf ?_|refine .cy ?_|refine .cn ?_|(refine .cond rfl ?_ ?_<;>intro O)|refine cS ?_|refine .nl ?_|refine .dd ?_|refine .ys ?_|refine .no ?_|(refine fL rfl ?_ ?_<;>intro O)|refine .lb ?_|refine .ln ?_|refine .ls ?_|refine .pv ?_|refine .ix ?_|refine .pt ?_|refine .pf ?_|refine .bx ?_|refine .al ?_|refine .st ?_|refine .ad ?_|refine .sb ?_|refine .mf ?_|refine .cl ?_|refine .cw ?_|refine .ck ?_|refine dH (m:=l.length) (nX l) b ?_|refine aH hp ?_|fail
  refine⟨_,_,rfl,(b6 rfl Wa rfl).trans (AJ.a6 (AC.no (AA.eq ?_)))⟩;rw[drop_zero,take_of_length_le Wa]
 ·rw[h1]at hp;simp only[zero_add]at hp;have x1:=aU (f:=AY.C) X;have r:=hr _ (getElem_mem X);have j:=aAL l[i].af a om;have g:(l[i].af.map Row.C).length=l[i].af.length:=by simp
  have e:w5 l name a=l.set i ⟨l[i].name,jD l[i].af a⟩:=by unfold w5;rw[h2];exact sL X _
  rcases mR (λx:Row=>x.key==a) l[i].af 0 with⟨h3,h4⟩|⟨k,hk,h3,h4,h5⟩
  ·rw[h3]at j;have d:jD l[i].af a=l[i].af:=by unfold jD;rw[h4]
   repeat' first|refine .seq ?_|refine .rg ?_|refine .rd ?_|refine .block ?_|refine .scope ?_|refine .skip ?_|refine .label ?_|refine .exit ?_|refine .ret ?_|refine .ct ?_|refine .cf ?_|refine .cy ?_|refine .cn ?_|(refine .cond rfl ?_ ?_<;>intro O)|refine cS ?_|refine .nl ?_|refine .dd ?_|refine .ys ?_|refine .no ?_|(refine fL rfl ?_ ?_<;>intro O)|refine .lb ?_|refine .ln ?_|refine .ls ?_|refine .pv ?_|refine .ix ?_|refine .pt ?_|refine .pf ?_|refine .bx ?_|refine .al ?_|refine .st ?_|refine .ad ?_|refine .sb ?_|refine .mf ?_|refine .cl ?_|refine .cw ?_|refine .ck ?_|refine dH (m:=l.length) (nX l) b ?_|refine aH hp ?_|refine aH j ?_|fail
   refine⟨_,_,rfl,(b6 rfl Wa rfl).trans (AJ.a6 (AC.no (AA.eq ?_)))⟩;rw[e,d,drop_zero,take_of_length_le Wa];have:l.set i ⟨l[i].name,l[i].af⟩=l:=by rw[show (⟨l[i].name,l[i].af⟩:AY)=l[i] by cases l[i];rfl];exact List.set_getElem_self X
   rw[this]
  ·rw[h3]at j;simp only[zero_add]at j;have d:jD l[i].af a=l[i].af.take k++l[i].af.drop (k+1):=by unfold jD;rw[h4]
   have c:(((l[i].af.map Row.C).take k).drop 0).length=k:=Wh
   have q:((k:Int)+1)=((k+1:Nat):Int):=Wa
   have o:Av.eQ true 4 (((l[i].af.map Row.C).take k).drop 0)=true:=by rw[drop_zero, <-List.map_take];exact oG _
   have p:Av.eQ true 4 (((l[i].af.map Row.C).take l[i].af.length).drop (k+1))=true:=by rw[<-List.map_take, <-List.map_drop];exact oG _
   have h:(((l[i].af.map Row.C).take l[i].af.length).drop (k+1)).length=l[i].af.length-(k+1):=Wa
   repeat' first|refine .seq ?_|refine .rg ?_|refine .rd ?_|refine .block ?_|refine .scope ?_|refine .skip ?_|refine .label ?_|refine .exit ?_|refine .ret ?_|refine .ct ?_|refine .cf ?_|refine .cy ?_|refine .cn ?_|(refine .cond rfl ?_ ?_<;>intro O)|refine cS ?_|refine .nl ?_|refine .dd ?_|refine .ys ?_|refine .no ?_|(refine fL rfl ?_ ?_<;>intro O)|refine .lb ?_|refine .ln ?_|refine .ls ?_|refine .pv ?_|refine .ix ?_|refine .pt ?_|refine .pf ?_|refine .bx ?_|refine .al ?_|refine .st ?_|refine .ad ?_|refine .sb ?_|refine .mf ?_|refine .cl ?_|refine .cw ?_|refine .ck ?_|refine dH (m:=l.length) (nX l) b ?_|refine aH hp ?_|refine aH j ?_|refine fM ?_|refine j8 ?_|refine fF ?_|refine jH ?_|refine I2 0 k rfl rfl rfl rfl rfl rfl rfl rfl (zero_le _) (by rw[g];omega) (.inl rfl) ?_|refine I2 (k+1) l[i].af.length rfl rfl rfl rfl rfl rfl q (by rw[g]) om (by rw[g];exact Nat.le_refl _) (.inr (oG _)) ?_|refine sZ (n:=0) rfl rfl rfl rfl rfl rfl rfl rfl rfl rfl o (by dsimp only;rw[c];omega) (by rw[c];omega) rfl ?_|refine bU (n:=0+(((l[i].af.map Row.C).take k).drop 0).length) (hf:=p) (hb:=(by dsimp only;rw[c,h];omega)) (hb':= (by rw[c,h];omega)) (show ([]++((l[i].af.map Row.C).take k).drop 0).length=_ by rw[List.nil_append,zero_add]) ?_|refine aX (agg:=true) (hn:=b) (he:=x1) ?_|fail
   refine⟨_,_,rfl,(b6 rfl Wa rfl).trans (AJ.a6 (AC.no ?_))⟩;rw[e,d,drop_zero,take_of_length_le Wa,map_set];refine Oq (AC.agg (AA.cons (aG _) (AA.cons (AC.no (AA.eq ?_)) (aD _)))) i;rw[List.nil_append,drop_zero,List.map_append,List.map_take,List.map_drop];congr 2;rw[take_of_length_le Wa]
def aC1(l:List AY)(c:BH){B:Nat}(hf:BM B l)(hB:B+c.args.length+1<=1048576):
  AN prog 100 [Tbls.C l,c.C] (.tup [Tbls.C (gI l c).1,(gI l c).2.1.C, .int .i64 (gI l c).2.2]):=by
 refine AQ.plain uM Xv (wA [.tmp 4, .cell 5 43, .tmp 6] func100 ?_);have u:BM 1048576 l:=hf.le om;have af:=u.len;have hk:=aAK c.name;have hg:=Uc iH c.args om;have w:=Uc sBy c.args om;have b:=Vf l ⟨c.table,(bR iH c.args).1.s⟩ om (λt ht=>by have:=hf.af t ht;omega);have ab:=G2 hf ⟨c.table,(bR iH c.args).1.s⟩;have i:=aDm l c.table (bR iH c.args).1.s u.len u.af;have m:=RT (bR iH c.args).1.s;obtain⟨K,hK⟩:∃K,K=(bR iH c.args).1:=⟨_,rfl⟩;obtain⟨Y,hY⟩:∃Y,Y=(bR sBy c.args).1:=⟨_,rfl⟩;obtain⟨G,hG⟩:∃G,G=cN l ⟨c.table,(bR iH c.args).1.s⟩:=⟨_,rfl⟩;have j:gI l c=if !uK c.name then (l,bO,1)
  else if c.name==lD then (l,bO,11)
  else if K.kind != 4 then (l,bO,1)
  else if G.e != 0 then (l,bO,G.e)
  else if c.name==uZ then (sM l c.table (uL c K.s G),jJ K.s,0)
  else if !G.is then (l,bO,6)
  else if c.name==vA then (w5 l c.table K.s,jJ K.s,0)
  else G1 l c G.row:=by rw[hK,hG];rfl
 have a3:∀r:Row,G1 l c r=if Y.kind != 2 then (l,bO,1)
  else if (iG r c.col).kind != 2 then (l,bO,7)
  else if !jE Y.n || !jE (iG r c.col).n || !jE (kK (Y.n+(iG r c.col).n)) then (l,bO,8)
  else (sM l c.table { r with aq:=oV r.aq c.col (zO (kK (Y.n+(iG r c.col).n))) },zO (kK (Y.n+(iG r c.col).n)),0):=by intro r;rw[hY];rfl
 rw[<-hG]at b ab;rw[<-hK]at hg i m b;rw[<-hY]at w;clear hG hK hY;obtain⟨o,a0⟩:∃o:Row,o=if G.is then G.row else ⟨K.s,c.av,[],false⟩:=⟨_,rfl⟩
 have a6:uL c K.s G={ o with aq:=eW c.args o.aq }:=by unfold uL;rw[a0]
 have z:o.aq.length+c.args.length<=1048576-1:=by
  rw[a0];split
  ·omega
  ·simp only[List.length_nil];omega
 have g:=aC0 l c.table { o with aq:=eW c.args o.aq } u.len u.af;rw[a6]at j;have h:=aCO o c.col om;have a1:=MK Y.n;have p:=MK (iG o c.col).n;have q:=MK (kK (Y.n+(iG o c.col).n));have wW:=aDh (kK (Y.n+(iG o c.col).n));have a:=aAM o.aq (.mk c.col (zO (kK (Y.n+(iG o c.col).n)))) om;have d:=aC0 l c.table { o with aq:=oV o.aq c.col (zO (kK (Y.n+(iG o c.col).n))) } u.len u.af;cases a4:G.is
 ·have a2:o=⟨K.s,c.av,[],false⟩:=by rw[a0,a4];rfl
  rw[a2]at g z j h p q wW a d;clear a2 a0 a6;have dg:(!G.is)=true:=YT
  repeat' first|refine dB ?_|refine f8 4 2 rfl rfl (AJ.a6 (x := .slice [] .nil) (y := .slice [] .no) (AC.no (aD _))) rfl ?_|refine .seq ?_|refine .rg ?_|refine .rd ?_|refine .block ?_|refine .scope ?_|refine .skip ?_|refine .label ?_|refine .exit ?_|refine .ret ?_|refine .ct ?_|refine .cf ?_|refine .cy ?_|refine .cn ?_|(refine .cond rfl ?_ ?_<;>intro O)|refine cS ?_|refine .nl ?_|refine .dd ?_|refine .ys ?_|refine .no ?_|(refine fL rfl ?_ ?_<;>intro O)|refine .lb ?_|refine .ln ?_|refine .ls ?_|refine .pv ?_|refine .ix ?_|refine .pt ?_|refine .pf ?_|refine .bx ?_|refine .al ?_|refine .st ?_|refine .ad ?_|refine .sb ?_|refine .mf ?_|refine .cl ?_|refine .cw ?_|refine .ck ?_|refine aH hk ?_|refine aH hg ?_|refine aH w ?_|refine aH b ?_|refine aH i ?_|refine aH m ?_|refine aH h ?_|refine aH a1 ?_|refine aH p ?_|refine Ke ?_|refine aH q ?_|refine aH wW ?_|refine aH a ?_|refine aH d ?_|fail
  all_goals try (refine aI rfl ?_;clear hk hg w b i m g h a1 p q wW a d;rw[j];(repeat' split)<;>first|exact qE|exact aG _|(rw[a3];(repeat' split)<;>first|exact qE|exact aG _|(exfalso;simp_all[uZ,vA,lD];done))|(exfalso;simp_all[uZ,vA,lD];done);done)
  change AB _ _ _ _ _ _ _;refine AB.loop (λn s H=>∃(k:Nat) (cols:List AG),n=c.args.length-k/\k<=c.args.length/\cols.length+(c.args.length-k)<=1048576-1/\eW c.args (⟨K.s,c.av,[],false⟩:Row).aq=eW (c.args.drop k) cols/\
   H=⟨[.cells fI, .cells fI, .cells [.int .i64 K.kind, .int .i64 K.n, .str K.s, .slice K.lv .no, .slice K.mv .no], .cells [.str G.row.key, .str G.row.av, .slice (G.row.aq.map AG.C) .no, .bool G.row.broken, .bool G.is, .int .i64 G.e], .cells [.str (⟨K.s,c.av,[],false⟩:Row).key, .str (⟨K.s,c.av,[],false⟩:Row).av, .slice (cols.map AG.C) .no, .bool (⟨K.s,c.av,[],false⟩:Row).broken]],[]⟩/\
   s=[(12, .int .i64 k),(0,Tbls.C l),(3, .ab c.C),(11, .ptr 4 0),(8, .ptr 2 0),(5, .ptr 0 0)])
   (s0:=[(12, .int .i64 (0:Nat)),(0,Tbls.C l),(3, .ab c.C),(11, .ptr 4 0),(8, .ptr 2 0),(5, .ptr 0 0)])
   Z0 ⟨0,(⟨K.s,c.av,[],false⟩:Row).aq,rfl,zero_le _,(by rw[Nat.sub_zero];exact z),rfl,rfl,rfl⟩ ?_
  rintro n s H ⟨k,cols,rfl,hk', hcl,hp,rfl,rfl⟩;clear hk hg w b i h a1 p q wW a d a3;by_cases h1:k<c.args.length
  ·have d1:=ltT h1;have x1:=aU (f:=AG.C) h1;have a:=aAM cols c.args[k] om;have ac:=qD cols c.args[k].name c.args[k].v
   repeat' first|refine .seq ?_|refine .rg ?_|refine .rd ?_|refine .block ?_|refine .scope ?_|refine .skip ?_|refine .label ?_|refine .exit ?_|refine .ret ?_|refine .ct ?_|refine .cf ?_|refine .cy ?_|refine .cn ?_|(refine .cond rfl ?_ ?_<;>intro O)|refine cS ?_|refine .nl ?_|refine .dd ?_|refine .ys ?_|refine .no ?_|(refine fL rfl ?_ ?_<;>intro O)|refine .lb ?_|refine .ln ?_|refine .ls ?_|refine .pv ?_|refine .ix ?_|refine .pt ?_|refine .pf ?_|refine .bx ?_|refine .al ?_|refine .st ?_|refine .ad ?_|refine .sb ?_|refine .mf ?_|refine .cl ?_|refine .cw ?_|refine .ck ?_|refine aH a ?_|fail
   ·refine⟨c.args.length-(k+1),om,[(12, .int .i64 ((k+1:Nat):Int)),(0,Tbls.C l),(3, .ab c.C),(11, .ptr 4 0),(8, .ptr 2 0),(5, .ptr 0 0)],
     Z0,Wr,WO,k+1,oV cols c.args[k].name c.args[k].v,rfl,om,om, ?_,rfl,rfl⟩
    rw[hp,iU h1,if_pos (by rename_i O;simpa [iH]using O)]
   ·refine⟨c.args.length-(k+1),om,[(12, .int .i64 ((k+1:Nat):Int)),(0,Tbls.C l),(3, .ab c.C),(11, .ptr 4 0),(8, .ptr 2 0),(5, .ptr 0 0)],
     Z0,Wr,WO,k+1,cols,rfl,om,om, ?_,rfl,rfl⟩
    rw[hp,iU h1,if_neg (by rename_i O;simpa [iH]using O)]
  ·have d1:=ltF h1;rw[List.drop_eq_nil_of_le om,eW]at hp;rw[hp]at g j
   repeat' first|refine .seq ?_|refine .rg ?_|refine .rd ?_|refine .block ?_|refine .scope ?_|refine .skip ?_|refine .label ?_|refine .exit ?_|refine .ret ?_|refine .ct ?_|refine .cf ?_|refine .cy ?_|refine .cn ?_|(refine .cond rfl ?_ ?_<;>intro O)|refine cS ?_|refine .nl ?_|refine .dd ?_|refine .ys ?_|refine .no ?_|(refine fL rfl ?_ ?_<;>intro O)|refine .lb ?_|refine .ln ?_|refine .ls ?_|refine .pv ?_|refine .ix ?_|refine .pt ?_|refine .pf ?_|refine .bx ?_|refine .al ?_|refine .st ?_|refine .ad ?_|refine .sb ?_|refine .mf ?_|refine .cl ?_|refine .cw ?_|refine .ck ?_|refine aH g ?_|refine aH m ?_|fail
   refine aI rfl ?_;clear g m;rw[j]
   (repeat' split)<;>first|exact aG _|(exfalso;simp_all[uZ,vA,lD];done)
 ·have a2:o=G.row:=by rw[a0,a4];rfl
  rw[a2]at g z j h p q wW a d;clear a2 a0 a6;have dg:(!G.is)=false:=YT
  repeat' first|refine dB ?_|refine f8 4 2 rfl rfl (AJ.a6 (x := .slice [] .nil) (y := .slice [] .no) (AC.no (aD _))) rfl ?_|refine .seq ?_|refine .rg ?_|refine .rd ?_|refine .block ?_|refine .scope ?_|refine .skip ?_|refine .label ?_|refine .exit ?_|refine .ret ?_|refine .ct ?_|refine .cf ?_|refine .cy ?_|refine .cn ?_|(refine .cond rfl ?_ ?_<;>intro O)|refine cS ?_|refine .nl ?_|refine .dd ?_|refine .ys ?_|refine .no ?_|(refine fL rfl ?_ ?_<;>intro O)|refine .lb ?_|refine .ln ?_|refine .ls ?_|refine .pv ?_|refine .ix ?_|refine .pt ?_|refine .pf ?_|refine .bx ?_|refine .al ?_|refine .st ?_|refine .ad ?_|refine .sb ?_|refine .mf ?_|refine .cl ?_|refine .cw ?_|refine .ck ?_|refine aH hk ?_|refine aH hg ?_|refine aH w ?_|refine aH b ?_|refine aH i ?_|refine aH m ?_|refine aH h ?_|refine aH a1 ?_|refine aH p ?_|refine Ke ?_|refine aH q ?_|refine aH wW ?_|refine aH a ?_|refine aH d ?_|fail
  all_goals try (refine aI rfl ?_;clear hk hg w b i m g h a1 p q wW a d;rw[j];(repeat' split)<;>first|exact qE|exact aG _|(rw[a3];(repeat' split)<;>first|exact qE|exact aG _|(exfalso;simp_all[uZ,vA,lD];done))|(exfalso;simp_all[uZ,vA,lD];done);done)
  change AB _ _ _ _ _ _ _;refine AB.loop (λn s H=>∃(k:Nat) (cols:List AG),n=c.args.length-k/\k<=c.args.length/\cols.length+(c.args.length-k)<=1048576-1/\eW c.args (G.row:Row).aq=eW (c.args.drop k) cols/\
   H=⟨[.cells fI, .cells fI, .cells [.int .i64 K.kind, .int .i64 K.n, .str K.s, .slice K.lv .no, .slice K.mv .no], .cells [.str G.row.key, .str G.row.av, .slice (G.row.aq.map AG.C) .no, .bool G.row.broken, .bool G.is, .int .i64 G.e], .cells [.str (G.row:Row).key, .str (G.row:Row).av, .slice (cols.map AG.C) .no, .bool (G.row:Row).broken]],[]⟩/\
   s=[(12, .int .i64 k),(0,Tbls.C l),(3, .ab c.C),(11, .ptr 4 0),(8, .ptr 2 0),(5, .ptr 0 0)])
   (s0:=[(12, .int .i64 (0:Nat)),(0,Tbls.C l),(3, .ab c.C),(11, .ptr 4 0),(8, .ptr 2 0),(5, .ptr 0 0)])
   Z0 ⟨0,(G.row:Row).aq,rfl,zero_le _,(by rw[Nat.sub_zero];exact z),rfl,rfl,rfl⟩ ?_
  rintro n s H ⟨k,cols,rfl,hk', hcl,hp,rfl,rfl⟩;clear hk hg w b i h a1 p q wW a d a3;by_cases h1:k<c.args.length
  ·have d1:=ltT h1;have x1:=aU (f:=AG.C) h1;have a:=aAM cols c.args[k] om;have ac:=qD cols c.args[k].name c.args[k].v
   repeat' first|refine .seq ?_|refine .rg ?_|refine .rd ?_|refine .block ?_|refine .scope ?_|refine .skip ?_|refine .label ?_|refine .exit ?_|refine .ret ?_|refine .ct ?_|refine .cf ?_|refine .cy ?_|refine .cn ?_|(refine .cond rfl ?_ ?_<;>intro O)|refine cS ?_|refine .nl ?_|refine .dd ?_|refine .ys ?_|refine .no ?_|(refine fL rfl ?_ ?_<;>intro O)|refine .lb ?_|refine .ln ?_|refine .ls ?_|refine .pv ?_|refine .ix ?_|refine .pt ?_|refine .pf ?_|refine .bx ?_|refine .al ?_|refine .st ?_|refine .ad ?_|refine .sb ?_|refine .mf ?_|refine .cl ?_|refine .cw ?_|refine .ck ?_|refine aH a ?_|fail
   ·refine⟨c.args.length-(k+1),om,[(12, .int .i64 ((k+1:Nat):Int)),(0,Tbls.C l),(3, .ab c.C),(11, .ptr 4 0),(8, .ptr 2 0),(5, .ptr 0 0)],
     Z0,Wr,WO,k+1,oV cols c.args[k].name c.args[k].v,rfl,om,om, ?_,rfl,rfl⟩
    rw[hp,iU h1,if_pos (by rename_i O;simpa [iH]using O)]
   ·refine⟨c.args.length-(k+1),om,[(12, .int .i64 ((k+1:Nat):Int)),(0,Tbls.C l),(3, .ab c.C),(11, .ptr 4 0),(8, .ptr 2 0),(5, .ptr 0 0)],
     Z0,Wr,WO,k+1,cols,rfl,om,om, ?_,rfl,rfl⟩
    rw[hp,iU h1,if_neg (by rename_i O;simpa [iH]using O)]
  ·have d1:=ltF h1;rw[List.drop_eq_nil_of_le om,eW]at hp;rw[hp]at g j
   repeat' first|refine .seq ?_|refine .rg ?_|refine .rd ?_|refine .block ?_|refine .scope ?_|refine .skip ?_|refine .label ?_|refine .exit ?_|refine .ret ?_|refine .ct ?_|refine .cf ?_|refine .cy ?_|refine .cn ?_|(refine .cond rfl ?_ ?_<;>intro O)|refine cS ?_|refine .nl ?_|refine .dd ?_|refine .ys ?_|refine .no ?_|(refine fL rfl ?_ ?_<;>intro O)|refine .lb ?_|refine .ln ?_|refine .ls ?_|refine .pv ?_|refine .ix ?_|refine .pt ?_|refine .pf ?_|refine .bx ?_|refine .al ?_|refine .st ?_|refine .ad ?_|refine .sb ?_|refine .mf ?_|refine .cl ?_|refine .cw ?_|refine .ck ?_|refine aH g ?_|refine aH m ?_|fail
   refine aI rfl ?_;clear g m;rw[j]
   (repeat' split)<;>first|exact aG _|(exfalso;simp_all[uZ,vA,lD];done)
def Ot(s:AI)(d:AR)(A:List AG)(Y:Am s d A)(pl:BO)(hup:BN pl)(B:Nat)(hB:B<=1152921504606846976)(hp:CR s pl B)(N0:Nat)(O:CZ s d A N0 pl)(u:AF)(row:Row)(hrow:BR row)(W:Nat->List AY->Prop)(hW:BI s A u W)(w:List Sl)(st:BG)(hS:Ai w st.n)(hk:W (st.n+1) st.L)(hn:st.n<=400)(hM:401<=N0+1+st.n):
  AQ prog 44 [.ptr 0 0, .str u,row.C, .slice (w.map Sl.C) .no] ⟨cnB s d A st,[]⟩ (λe σ'=> e = .ret (.tup [])/\σ'= ⟨cnB s d A (pW s A pl u row (bG s d A u w) st (bG s d A u w).length),[]⟩):=by
 obtain⟨ak,bj⟩:=Y.ai;have a2:=Y.hs;have bi:=Y.hd;have bp:=hS.sz;have av:1048576 * (st.n+1)<=1048576 * 401:=Nat.mul_le_mul_left _ om;have bc:=Uq s d A u w a2 om ak Y.he;have ac:=F5 s d A Y pl hup B hp u row hrow W hW w st hS hk hn;have bn:=Jl s d A Y pl hup B hp u row hrow W hW w st hS hk hn;have am:=pV s d A Y u hS;have bg:=hrow.len;refine gM (nB:=1) (mT:=0) (cK [] func44 ?_) rfl (gU _ _ _ _ _ _) rfl;have e1:decide ((400:Int)<(st.n:Int))=false:=decide_eq_false om;generalize bG s d A u w=i at *;unfold cnB PT;repeat' first|refine .br ?_|refine bZ ?_|refine .s1 ?_|(refine .q ?_ ?_<;>intro O)|fail
 refine fB i AW.C (λj=>[(9, .int .i64 j),(8, .slice (i.map AW.C) .no),(6, .ab row.C),(1, .str u),(0, .ptr 0 0)]) (λj=>⟨cnB s d A (pW s A pl u row i st j),[]⟩) (λ_=>True) trivial (λj h1 d1 x1 _=> ?_) (λd1 _=> ?_);case refine_2=>refine .go ?_;exact⟨_,_,rfl,eU _ _,rfl,rfl⟩
 obtain⟨i1,i2,i3⟩:=ac j om;have l:=HZ s A pl u row i st h1;obtain⟨ao,aa⟩:=am i[j] (getElem_mem h1);generalize bh:pW s A pl u row i st j=f at *;generalize a0:pW s A pl u row i st (j+1)=R at *;generalize i[j]=g at *;obtain⟨x,C,a9⟩:=List.exists_cons_of_ne_nil ao;have a1:g.O.headD sl0=x:=by rw[a9];rfl
 have x0:(g.O.map Sl.C)[0]? =some x.C:=by rw[a9];rfl
 have y:=aa.all x (by rw[a9];simp);have bo:=x.ax;obtain⟨f1,f2⟩:=j4 Y.so u x.name;have bm:(aK s u x.name).1.size=(aK s u x.name).1.name.length+aA AO.size (aK s u x.name).1.params+(aK s u x.name).1.t.size+aA AM.size (aK s u x.name).1.ao+4:=rfl;have bl:(aK s u x.name).1.t.name.length<=(aK s u x.name).1.t.size:=Xu
 obtain⟨bf,ab⟩:=Co Y u x y.1 y.2;have a8:=hW.calm x.name;have hT:=hW.bq _ _ i1;have a6:=hW.fits f.n f.L g i1 (by unfold hdS;rw[a1];exact y.1) (by unfold hdS;rw[a1];exact y.2);have a5:=hW.bw f.n f.L g i1 (by unfold hdS;rw[a1];exact y.1) (by unfold hdS;rw[a1];exact y.2);have ad:=VJ s u (aK s u x.name).1;have hF:=Cz s u x.name a2;have hO:=aCN s u (aK s u x.name).1 a2 om;have hA:=Um s a2 (λe he p hp=>(Y.so e he).2 p hp) A (by have:=Y.he;omega) (aK s u x.name).1.params x.args om f2 (λp hp=>by have h5:=aN (size:=AO.size) hp;have h6:=p.lens;have h7:=F3 s u x.name;omega) om ((x.ok_eq.1 y.1).2.1);have b3:=Sa g.O (by have:=aa.sz;omega);have aj:=tP aa;have a3:∀(tb:AF) (v:AH) (L:List AY),Ad v->BT L->f.n+1<=400->_:=λtb v L hv hL hq=>aCZ s d A a2 pl B om hp hup N0 O tb (bM g.O) v.size v (Nat.le_refl _) hv.1 (aK s u x.name).1.t ⟨L,f.n+1⟩ om a8 hL (aj.mono Wl) Wl Wl
 unfold lE Ps F4 KA hdS at *;dsimp only at l;rw[a1]at l a6 a5;generalize dV s (aK s u x.name).1.params x.args A=a at *;generalize aK s u x.name=fr at *;generalize ofB s u fr.1=bb at *;obtain⟨b,bk⟩:=bb;obtain⟨al,ae⟩:=a;dsimp only at *;have b5:=aCO row b.col om;have ba:=Uc b.arg al om;have b0:=gU s d A f 1 0;have be:∀q:List (Nat×AV),q=q:=λ_=>rfl
 unfold cnB PT;repeat' first|refine .br ?_|refine bZ ?_|refine Dc (x := .region 7 _ _) 10 b0 rfl ?_|refine bH (d:=10) ?_|refine .s1 ?_|(refine .q ?_ ?_<;>intro O)|refine aX (agg:=true) ?_|fail
 refine⟨_,_,_,[(10, .ab fr.1.C),(9, .int .i64 j),(8, .slice (i.map AW.C) .no),(6, .ab row.C),(1, .str u),(0, .ptr 0 0)],rfl,aY,Z0,by show aM 1 0 _=true;simp[aM,AV.aa,aF,aC,Ah.K,Row.K,cQ], ?_⟩;repeat' first|refine .br ?_|refine bZ ?_|refine Dc (x := .region 8 _ _) 12 b0 rfl ?_|refine bH (d:=12) ?_|refine .s1 ?_|(refine .q ?_ ?_<;>intro O)|refine aX (agg:=true) ?_|fail
 refine⟨_,_,_,[(12, .ab b.C),(10, .ab fr.1.C),(9, .int .i64 j),(8, .slice (i.map AW.C) .no),(6, .ab row.C),(1, .str u),(0, .ptr 0 0)],rfl,aY,Z0,by show aM 1 0 _=true;simp[aM,AV.aa,aF,aC,Ah.K,BQ.K,Row.K,cQ], ?_⟩;have b1:=gU s d A R 1 0;by_cases ca:ae=0;case neg=>
  have n1:(ae != 0)=true:=by simpa using ca
  rw[if_pos (.inl ca)]at l;repeat' first|refine .br ?_|refine bZ ?_|refine .s1 ?_|(refine .q ?_ ?_<;>intro O)|fail
  exact nz trivial (hb:=by show aM 1 0 _=true;simp[aM,AV.aa,aF,Row.K,aC,cQ]) (h3:=by show (aQ 1 0 (cnB s d A ⟨f.L,f.n+1⟩)&&true)=true;rw[gU];rfl) (h4:=by show (⟨cnB s d A ⟨f.L,f.n+1⟩,[]⟩:St)=(⟨cnB s d A (pW s A pl u row i st (j+1)),[]⟩:St);rw[a0,l])
 have n1:(ae != 0)=false:=by rw[ca];rfl
 by_cases cb:400<f.n+1
 ·have n2:decide ((f.n:Int)+1>400)=true:=decide_eq_true om;rw[if_pos (.inr cb)]at l;repeat' first|refine .br ?_|refine bZ ?_|refine .s1 ?_|(refine .q ?_ ?_<;>intro O)|fail
  exact nz trivial (hb:=by show aM 1 0 _=true;simp[aM,AV.aa,aF,Row.K,aC,cQ]) (h3:=by show (aQ 1 0 (cnB s d A ⟨f.L,f.n+1⟩)&&true)=true;rw[gU];rfl) (h4:=by show (⟨cnB s d A ⟨f.L,f.n+1⟩,[]⟩:St)=(⟨cnB s d A (pW s A pl u row i st (j+1)),[]⟩:St);rw[a0,l])
 have n2:decide ((f.n:Int)+1>400)=false:=decide_eq_false om;rw[if_neg (λh=>h.elim (λh=>h ca) cb)]at l;have z:∀v:AH,aE 1 0 [.ptr 0 0,fr.1.t.C,v.C, .str b.table, .slice ((bM g.O).map Sl.C) .no]=true:=λv=>YO
 rcases ad with h0|h0|h0|h0
 ·have e0:(b.how==0)=true:=by rw[h0];rfl
  rw[if_neg om,if_neg om]at l;have hv:=a3 b.table (iG row b.col) f.L (pT hrow.bj) hT om;rw[<-l]at hv;have k:=gU s d A ⟨f.L,f.n+1⟩ 1 0;have o:=z (iG row b.col);repeat' first|refine .br ?_|refine bZ ?_|refine .s1 ?_|(refine .q ?_ ?_<;>intro O)|refine dC (B:=[_]) hv (Nat.le_refl _) k rfl b1 rfl o ?_|fail
  exact nz trivial (hb:=by show aM 1 0 _=true;simp[aM,AV.aa,aF,Row.K,aC,cQ]) (h3:=by show (aQ 1 0 (cnB s d A R)&&true)=true;rw[b1];rfl) (h4:=by show (⟨cnB s d A R,[]⟩:St)=(⟨cnB s d A (pW s A pl u row i st (j+1)),[]⟩:St);rw[a0])
 ·have e0:(b.how==0)=false:=by rw[h0];rfl
  have e1:(b.how==1)=true:=X9
  rw[if_neg om,if_neg om]at l;have hv:=a3 b.table (iG row b.col) f.L (pT hrow.bj) hT om;rw[<-l]at hv;have k:=gU s d A ⟨f.L,f.n+1⟩ 1 0;have o:=z (iG row b.col);repeat' first|refine .br ?_|refine bZ ?_|refine .s1 ?_|(refine .q ?_ ?_<;>intro O)|refine dC (B:=[_]) hv (Nat.le_refl _) k rfl b1 rfl o ?_|fail
  exact nz trivial (hb:=by show aM 1 0 _=true;simp[aM,AV.aa,aF,Row.K,aC,cQ]) (h3:=by show (aQ 1 0 (cnB s d A R)&&true)=true;rw[b1];rfl) (h4:=by show (⟨cnB s d A R,[]⟩:St)=(⟨cnB s d A (pW s A pl u row i st (j+1)),[]⟩:St);rw[a0])
 ·have e0:(b.how==0)=false:=by rw[h0];rfl
  have e1:(b.how==1)=false:=X9
  have e2:(b.how==2)=true:=X9
  rw[if_neg om,if_pos h0]at l;have hv:=a3 b.table (bR b.arg al).1 f.L (pT λm hm=>(ab m hm).2) hT om;rw[<-l]at hv;have k:=gU s d A ⟨f.L,f.n+1⟩ 1 0;have o:=z (bR b.arg al).1;repeat' first|refine .br ?_|refine bZ ?_|refine .s1 ?_|(refine .q ?_ ?_<;>intro O)|refine dC (B:=[_]) hv (Nat.le_refl _) k rfl b1 rfl o ?_|fail
  exact nz trivial (hb:=by show aM 1 0 _=true;simp[aM,AV.aa,aF,Row.K,aC,cQ]) (h3:=by show (aQ 1 0 (cnB s d A R)&&true)=true;rw[b1];rfl) (h4:=by show (⟨cnB s d A R,[]⟩:St)=(⟨cnB s d A (pW s A pl u row i st (j+1)),[]⟩:St);rw[a0])
 ·have e0:(b.how==0)=false:=by rw[h0];rfl
  have e1:(b.how==1)=false:=X9
  have e2:(b.how==2)=false:=X9
  have e3:(b.how==3)=true:=X9
  rw[if_pos h0]at l;obtain⟨B2,w1,w2⟩:=a6 h0 om;have hD:=aC1 f.L (oZ fr.1 b al) w1 w2;have b4:=aAU fr.1 b al;have ai:=hW.bq _ _ (a5 h0 om);have ap:=(E5 (L:=f.L) (c:=oZ fr.1 b al) (B:=1048576) ⟨hT.a7,hT.bj⟩ (λm hm=>(ab m hm).2)).1;generalize oZ fr.1 b al=cm at *;generalize gI f.L cm=r at *;have hv:=a3 b.table r.2.1 r.1 ap ai om;rw[<-l]at hv;have k:=gU s d A ⟨r.1,f.n+1⟩ 1 0;have o:=z r.2.1;repeat' first|refine .br ?_|refine bZ ?_|refine .s1 ?_|(refine .q ?_ ?_<;>intro O)|refine dC (B:=[_]) hv (Nat.le_refl _) k rfl b1 rfl o ?_|fail
  exact nz trivial (hb:=by show aM 1 0 _=true;simp[aM,AV.aa,aF,Row.K,aC,cQ]) (h3:=by show (aQ 1 0 (cnB s d A R)&&true)=true;rw[b1];rfl) (h4:=by show (⟨cnB s d A R,[]⟩:St)=(⟨cnB s d A (pW s A pl u row i st (j+1)),[]⟩:St);rw[a0])
theorem Sd(s:AI)(d:AR)(A:List AG)(N:Nat)(u:AF)(row:Row)(w:List Sl)(st:BG)(hn:st.n<=400):pW s A (oW s d A N) u row (bG s d A u w) st (bG s d A u w).length=oW s d A (N+1) u row w st:=by unfold pW;rw[oW,List.take_length];dsimp only;rw[if_neg om]
def Ou(s:AI)(hs:A2 s)(d:AR)(A:List AG)(Y:Am s d A):∀N:Nat,N<=1000->CZ s d A N (oW s d A N)
 |0,_=>λu row w st _ _ _ _ hn a=>by omega
 |N+1,b=>λu row w st ht hT hr hS hn a=>by
  have h:=Ot s d A Y _ (rA s d A N) _ (by have:=Nat.mul_le_mul_right 70368744177664 (show N<=1000 by omega);omega) (Jm s hs d A Y N) N (Ou s hs d A Y N om) u row hr _ (zC hs A ht) w st hS hT hn om
  rw[Sd s d A N u row w st hn]at h
  exact h
def zP(s:AI)(d:AR)(o:Aj)(A:List AG)(L:List AY):Nat:=(oW s d A 401 (aV s o) cG o.O ⟨L,0⟩).n
def aAV(s:AI)(hs:A2 s)(d:AR)(A:List AG)(Y:Am s d A)(o:Aj)(L:List AY)(W:Nat->List AY->Prop)(hW:BI s A (aV s o) W)(hk:W 1 L)(hS:Ai o.O 0):
  AN prog 16 [s.C,d.C,o.C, .slice (A.map AG.C) .no,Tbls.C L, .int .i64 400] (.int .i64 (zP s d o A L)):=by
 have hp:=Ot s d A Y _ (rA s d A 400) _ Wc (Jm s hs d A Y 400) 400 (Ou s hs d A Y 400 om) (aV s o) cG ⟨Wc,λm f=>by cases f⟩ W hW o.O ⟨L,0⟩ hS hk (zero_le _) (by show 401<=400+1+0;omega);rw[Sd s d A 400 (aV s o) cG o.O ⟨L,0⟩ (zero_le _)]at hp;have hr:=Vc s o;unfold zP;have a:oW s d A 401=oW s d A (400+1):=rfl;rw[a];generalize oW s d A (400+1) (aV s o) cG o.O ⟨L,0⟩=R at *
 have c:=gU s d A ⟨L,0⟩ 1 0;have e:=gU s d A R 1 0;have b:aE 1 0 [.ptr 0 0, .str (aV s o),cG.C, .slice (o.O.map Sl.C) .no]=true:=by simp[aE,AV.aa,aF,Row.K,aC,aZ]
 have hw:AA [.ptr 0 0, .str (aV s o), .agg [.str [], .str [], .slice [] .nil, .bool false], .slice (o.O.map Sl.C) .no] [.ptr 0 0, .str (aV s o),cG.C, .slice (o.O.map Sl.C) .no]:=
  AA.cons (aG _) (AA.cons (aG _) (AA.cons (AC.agg (AA.cons (aG _) (AA.cons (aG _) (AA.cons (AC.no (aD _)) (aD _))))) (aD _)))
 refine pEn 12 func16 (ha:=by simp[AV.K,aB,AI.K,AR.K,Aj.K,aT,Tbls.K]) ?_
 repeat' first|refine AD.bx (v := .agg [_,_,_,_,_,_,_,_,_,_,_]) ?_|refine .br ?_|refine .s1 ?_|(refine .q ?_ ?_<;>intro O)|refine bZ ?_|refine dC (B0:=cnB s d A ⟨L,0⟩) (B:=[]) (hw:=hw) hp (Nat.le_refl _) c rfl e rfl b ?_|fail
 exact bW
end Go.Proofs.YtdodieljpcfpcaaGreatDoor
namespace Go.Av
open Go
variable [AK]
mutual
theorem sE{g:Gh}{w:World}:∀(x:AV) (v:Value),Ab g w x v->x.aa g.bx.length g.tk.length=true
 | .undef,_,_=>rfl
 | .bool _,_,_=>rfl
 | .int _ _,_,_=>rfl
 | .str _,_,_=>rfl
 | .agg cs,_,⟨vs,_,h,_⟩=>m7 cs _ h
 | .tup cs,_,⟨vs,_,h⟩=>m7 cs _ h
 | .slice xs t,_,⟨a,cap,sz,Vs,_,_,_,h3,h4,_,_⟩=>by
  simp only[AV.aa,Bool.and_eq_true]
  refine⟨?_,m7 xs _ h4⟩
  cases t with
  |own k z=>obtain⟨_,r,h,_⟩:=h3;simpa using (List.getElem?_eq_some_iff.1 h).1
  |_=>rfl
 | .ptr i _,_,⟨b,h,_⟩=>by simpa [AV.aa]using (List.getElem?_eq_some_iff.1 h).1
 | .ab x,_,⟨b,o,V,_,_,h⟩=>sE x _ h
 | .nilp,_,_=>rfl
 | .praw _,_,_=>rfl
 | .fn _ c cs,_,⟨vs,ws,_,h1,h2⟩=>by simp only[AV.aa,m7 c _ h1,m7 cs _ h2];rfl
 | .nilfn,_,_=>rfl
 | .iface _ x,_,⟨u,_,h⟩=>sE x _ h
 | .nili,_,_=>rfl
 | .map i,_,⟨b,h,_⟩=>by simpa [AV.aa]using (List.getElem?_eq_some_iff.1 h).1
 | .nilmap,_,_=>rfl
 | .iter i,_,⟨b,h,_⟩=>by simpa [AV.aa]using (List.getElem?_eq_some_iff.1 h).1
 | .view xs _,_,⟨a,cap,sz,Vs,_,_,_,_,h4,_,_⟩=>m7 xs _ h4
 | .Y k _ _ _ _,_,⟨a,cap,_,_,_,_,_,_,r,h,_⟩=>by simpa [AV.aa]using (List.getElem?_eq_some_iff.1 h).1
 | .an k _ _ _ _,_,⟨b,o,_,_,r,h,_⟩=>by simpa [AV.aa]using (List.getElem?_eq_some_iff.1 h).1
theorem m7{g:Gh}{w:World}:∀(cs:List AV) (vs:List Value),AL g w cs vs->aE g.bx.length g.tk.length cs=true
 |[],_,_=>rfl
 |c::cs,_,⟨v,C,_,h1,h2⟩=>by simp only[aE,sE c _ h1,m7 cs _ h2];rfl
end
def BC(N:Nat)(D:List Deferred)(s:AE)(H:St):Prop:=∃(g:Gh) (w:World) (a:Act),Inv g H w/\A3 g w s a.tmps/\a.tmps.size=N/\a.defers=D
def CP(e:AX)(s:AE)(H:St):AX->AE->St->Prop:=λe1 s1 σ1=>e1=e/\s1=s/\σ1=H
def EX(P:Program)(N:Nat)(D:List Deferred)(c:Code)(K:AX->AE->St->Prop)(s:AE)(H:St):Prop:=
 BC N D s H->∃e s' σ', K e s' σ'/\ AB P N D c (CP e s' σ') s H
def Lf(t:Nat):List Nat->Bool
 |[]=>false
 |u::l=>bif Nat.beq u t then true else Lf t l
def nub(seen:List Nat):AE->AE
 |[]=>[]
 |(t,v)::s=>bif Lf t seen then nub seen s else (t,v)::nub (t::seen) s
section
variable {P:Program} {N:Nat} {D:List Deferred} {c:Code} {K:AX->AE->St->Prop} {s:AE} {H:St}
theorem JG:∀(s:AE) (a:List Nat) (t:Nat) (v:AV),(t,v)∈nub a s->Lf t a=false/\lk s t=v
 |[],_,_,_,h=>by simp[nub]at h
 |(u,x)::s,a,t,v,h=>by
  unfold nub at h
  have c:(t,v)∈nub a s->Lf u a=true->Lf t a=false/\lk ((u,x)::s) t=v:=λh b=>by
   obtain⟨h1,h2⟩:=JG s a t v h
   refine⟨h1, ?_⟩
   unfold lk
   cases e:Nat.beq u t with
   |false=>exact h2
   |true=>have:=Nat.eq_of_beq_eq_true e;subst this;rw[h1]at b;cases b
  cases b:Lf u a with
  |true=>rw[b]at h;exact c h b
  |false=>
   rw[b]at h
   simp only[cond_false,List.mem_cons,Prod.mk.injEq]at h
   rcases h with⟨rfl,rfl⟩|h
   ·exact⟨b,by simp[lk]⟩
   ·obtain⟨h1,h2⟩:=JG s (u::a) t v h
    unfold Lf at h1
    cases e:Nat.beq u t with
    |true=>rw[e]at h1;cases h1
    |false=>rw[e]at h1;exact⟨h1,by unfold lk;rw[e];exact h2⟩
def Sub.of:∀ {l s:AE},(∀t v,(t,v)∈l->lk s t=v)->Sub l s
 |[],_,_=>trivial
 |(t,v)::l,_,h=>⟨h t v Wa,Sub.of λt v a=>h t v W5⟩
def JH(a:List Nat)(s:AE):Sub (nub a s) s:=Sub.of λt v h=>(JG s a t v h).2
theorem Is{n m:Nat}:∀ {l:AE},(∀t v,(t,v)∈l->v.aa n m=true)->aM n m l=true
 |[],_=>rfl
 |(t,v)::l,h=>by rw[aM,h t v Wa,Is λt v a=>h t v W5];rfl
theorem It{n m:Nat}:∀ {l:List Ob},(∀o∈l,o.aa n m=true)->aQ n m l=true
 |[],_=>rfl
 |o::l,h=>by rw[aQ,h o Wa,It λo a=>h o W5];rfl
theorem Iu{n m:Nat}:∀ {l:List Tok},(∀o∈l,o.aa n m=true)->aL n m l=true
 |[],_=>rfl
 |o::l,h=>by rw[aL,h o Wa,Iu λo a=>h o W5];rfl
theorem Lg{g:Gh}{w:World}:∀(l:List (AV×AV)) (es:List MapEntry),Au g w l es->oP g.bx.length g.tk.length l=true
 |[],_,_=>rfl
 |(k,v)::l,_,⟨e,C,_,h1,h2,h3⟩=>by simp only[oP,sE _ _ h1,sE _ _ h2,Lg l _ h3];rfl
theorem BC.bs(h:BC N D s H)(b:List Nat):aM H.B.length H.T.length (nub b s)=true:=by
 obtain⟨g,w,a,X,hs,_⟩:=h;refine Is λt v c=> ?_
 have h1:=hs t;rw[(JG s b t v c).2]at h1;have:=sE _ _ h1
 rwa [X.lenB,X.lenT]at this
def BC.state(h:BC N D s H):(aQ H.B.length H.T.length H.B&&aL H.B.length H.T.length H.T)=true:=by
 obtain⟨g,w,a,X,hs,_⟩:=h;rw[Bool.and_eq_true];constructor
 ·refine It λo c=> ?_
  obtain⟨i,hl,rfl⟩:=List.getElem_of_mem c;have b:i<g.bx.length:=by rw[X.lenB];exact hl
  have h1:=X.ob i _ _ (List.getElem?_eq_getElem b) (List.getElem?_eq_getElem hl);rw[<-X.lenB, <-X.lenT];generalize H.B[i]=o at h1;cases o with
  |cells cs=>obtain⟨J,R,_,h2,_⟩:=h1;exact m7 _ _ h2
  |map es=>obtain⟨d,cl,_,h2⟩:=h1;exact Lg _ _ h2
  |iter s p=>rfl
 ·refine Iu λo c=> ?_
  obtain⟨i,hl,rfl⟩:=List.getElem_of_mem c;have b:i<g.tk.length:=by rw[X.lenT];exact hl
  have h1:=X.tok i _ _ (List.getElem?_eq_getElem b) (List.getElem?_eq_getElem hl);rw[<-X.lenB, <-X.lenT];generalize H.T[i]=o at h1;cases o with
  |len n=>rfl
  |Y xs=>obtain⟨_,_,_,Vs,h2,_⟩:=h1;exact m7 _ _ h2
def BC.next{e:AX}(h:BC N D s H)(O:AB P N D c (CP e s' σ') s H):BC N D s' σ':= by obtain⟨g,w,a,X,hs,ha,j⟩:=h;obtain⟨e1,b,w', ⟨l,m,k,g', _,h2,h3,_,d,f,i⟩,_⟩:=O g w a X hs ha j default [] [];obtain⟨_,rfl,rfl⟩:=i;exact⟨g', w', b,d,f,h2,h3⟩
theorem BC.weaken(h:BC N D s' H)(hs:Sub s s'):BC N D s H:=
 let ⟨g,w,a,X,hr,ha,b⟩:=h
 ⟨g,w,a,X,hs.a1 hr,ha,b⟩
theorem EX.mono{K': AX->AE->St->Prop}(h:EX P N D c K s H)(hk:∀e s H,K e s H->K' e s H):EX P N D c K' s H:=λhr=>
 let ⟨e,s', σ', h1,h2⟩:=h hr
 ⟨e,s', σ', hk _ _ _ h1,h2⟩
def EX.of{e:AX}(h:AB P N D c (CP e s' σ') s H)(hk:K e s' σ'):EX P N D c K s H:=λ_=>⟨e,s', σ', hk,h⟩
theorem EX.weaken(h:EX P N D c K s H)(hs:Sub s s'):EX P N D c K s' H:=λhr=>
 let ⟨e,b,a,h1,h2⟩:=h (hr.weaken hs)
 ⟨e,b,a,h1,h2.weaken hs⟩
def x9(h:BC N D s H->EX P N D c K s H):EX P N D c K s H:=λhr=>h hr hr
def EX.via{b:AE}{σ1:St}(h:∀(c:Code) (K:AX->AE->St->Prop),AB P N D c K b σ1->AB P N D c K s H)(k:EX P N D c K b σ1):EX P N D c K s H:=λhr=>by
 have h1:AB P N D .skip (λ_ _ _=>BC N D b σ1) b σ1:=λg w a X hs ha d=>wp_skip ⟨.normal,b,σ1,g,rfl,ha,d,fD g w,X,hs,⟨g,w,a,X,hs,ha,d⟩⟩
 obtain⟨g,w,a,X,hs,ha,d⟩:=hr
 obtain⟨_,_,_,⟨_,_,_,_,_,_,_,_,_,_,f⟩,_⟩:=h _ _ h1 g w a X hs ha d default [] []
 obtain⟨e,j,i,h2,h3⟩:=k f
 exact⟨e,j,i,h2,h _ _ h3⟩
def EX.skip(h:K .normal s H):EX P N D .skip K s H := .of (AB.skip ⟨rfl,rfl,rfl⟩) h
def EX.exit(h:K (.exit id) s H):EX P N D (.exit id) K s H := .of (AB.exit ⟨rfl,rfl,rfl⟩) h
theorem EX.ret(h:K .ret s H):EX P N D .ret K s H := .of (AB.ret ⟨rfl,rfl,rfl⟩) h
def EX.seq{y:Code}(h:EX P N D x (thn (EX P N D y K) K) s H):EX P N D (.seq x y) K s H:=λhr=>by
 obtain⟨e,s', σ', hk,Y⟩:=h hr
 have g:∀ {K'},thn (AB P N D y K') K' e s' σ'-> AB P N D (.seq x y) K' s H:=λh=>AB.seq (Y.mono λe1 l k ⟨a,b,c⟩=>by subst a b c;exact h)
 cases e with
 |normal=>
  obtain⟨i,j,f,d,hy⟩:=hk (hr.next Y)
  exact⟨i,j,f,d,g hy⟩
 |_=>exact⟨_,s', σ', hk,g ⟨rfl,rfl,rfl⟩⟩
theorem EX.block(h:EX P N D c (blk id K) s H):EX P N D (.block id c) K s H:=λhr=>by
 obtain⟨e,s', σ', hk,Y⟩:=h hr
 have d:∀ {K'},blk id K' e s' σ'-> AB P N D (.block id c) K' s H:=λh=>AB.block (Y.mono λe1 i g ⟨a,b,c⟩=>by subst a b c;exact h)
 cases e with
 |exit f=>
  simp only[blk]at hk d
  cases h:Nat.beq f id with
  |true=>rw[h]at hk d;exact⟨.normal,s', σ', hk,d ⟨rfl,rfl,rfl⟩⟩
  |false=>rw[h]at hk d;exact⟨.exit f,s', σ', hk,d ⟨rfl,rfl,rfl⟩⟩
 |_=>exact⟨_,s', σ', hk,d ⟨rfl,rfl,rfl⟩⟩
theorem EX.q{x:Operand}{y:Code}(ht:b=true->EX P N D y K s H)(hf:b=false->EX P N D z K s H)(O:ev s x = .bool b:=by exact rfl):EX P N D (.cond x y z) K s H:=λhr=>by
 cases b with
 |true=>obtain⟨e,c,a,h1,h2⟩:=ht rfl hr;exact⟨e,c,a,h1,o7 O h2⟩
 |false=>obtain⟨e,c,a,h1,h2⟩:=hf rfl hr;exact⟨e,c,a,h1,oA O h2⟩
def EX.ct{x:Operand}{y:Code}(h:EX P N D y K s H)(O:ev s x = .bool true:=by exact rfl):EX P N D (.cond x y z) K s H := .q (λ_=>h) (λh=>Wu) O
def EX.cf{x:Operand}{y:Code}(h:EX P N D z K s H)(O:ev s x = .bool false:=by exact rfl):EX P N D (.cond x y z) K s H := .q (λh=>Wu) (λ_=>h) O
def EX.cy{x:Operand}{y:Code}(h:EX P N D y K s H)(O:ev s x = .bool b:=by exact rfl)(hb:b=true:=by assumption):EX P N D (.cond x y z) K s H := .q (λ_=>h) (λk=>by rw[hb]at k;cases k) O
def EX.cn{x:Operand}{y:Code}(h:EX P N D z K s H)(O:ev s x = .bool b:=by exact rfl)(hb:b=false:=by assumption):EX P N D (.cond x y z) K s H := .q (λk=>by rw[hb]at k;cases k) (λ_=>h) O
def AD.out{A:Array Oper}{G:Bool}:∀(l:List Oper) (I:List Ak) (s:AE) (H:St),AD P A G K l I s H->∃e s' σ', K e s' σ'/\ AD P A G (CP e s' σ') l I s H
 |[],I,s,H,⟨h1,h2⟩=>⟨_,s,H,h2,h1,rfl,rfl,rfl⟩
 |o::l,I,s,H,h=>by
  rcases h with⟨h1,t,v,a,h2,h3⟩|⟨h1,h2⟩|⟨h1,h2,x,a,h3,h4⟩
  ·obtain⟨e,s', σ', b,c⟩:=AD.out l _ _ _ h3
   exact⟨e,s', σ', b, .inl ⟨h1,t,v,a,h2,c⟩⟩
  ·obtain⟨e,s', σ', b,c⟩:=AD.out l _ _ _ h2
   exact⟨e,s', σ', b, .inr (.inl ⟨h1,c⟩)⟩
  ·exact⟨_,s,a,h4, .inr (.inr ⟨h1,h2,x,a,h3,rfl,rfl,rfl⟩)⟩
def EX.rg(h:AD P a false K a.toList [] s H)(b:Cd N a.toList=true:=by exact rfl):EX P N D (.region id a false) K s H:=
 let ⟨_,_,_,h1,h2⟩:=AD.out _ _ _ _ h
 .of (AB.region b h2) h1
def EX.rd[Lay P](h:AD P a true K a.toList [] s H)(b:P.follows .mixedOrders=true:=by exact Lay.c8)(c:Cd N a.toList=true:=by exact rfl):EX P N D (.region id a true) K s H:=
 let ⟨_,_,_,h1,h2⟩:=AD.out _ _ _ _ h
 .of (vJ b c h2) h1
inductive Ch (P:Program) (N:Nat) (D:List Deferred) (c:Code) (nB nT:Nat) (e:AX) (s': AE) (σ': St):Nat->AE->St->Prop where
 |done {n:Nat} {s:AE} {H:St}:AB P N D c (CP e s' σ') s H->e ≠ .normal->Ch P N D c nB nT e s' σ' n s H
 |next {n m:Nat} {s s1 s2:AE} {H σ1:St}:AB P N D c (CP .normal s1 σ1) s H->m<n->Sub s2 s1->aM nB nT s2=true->(aQ nB nT (σ1.B.take nB)&&aL nB nT (σ1.T.take nT))=true->
   Ch P N D c nB nT e s' σ' m s2 ⟨σ1.B.take nB,σ1.T.take nT⟩->Ch P N D c nB nT e s' σ' n s H
theorem Ch.loop{nB nT:Nat}{e:AX}{s0:AE}(h:Ch P N D c nB nT e s' σ' n s0 H)(hs:Sub s0 s)(i:H.B.length=nB)(hT:H.T.length=nT):AB P N D (.loop c) (CP e s' σ') s H:=by
 subst i hT;refine AB.loop (Ch P N D c H.B.length H.T.length e s' σ') hs h λn f d h=> ?_
 cases h with
 |done h he=>exact h.mono λe1 f d ⟨a,b,c⟩=>by subst a b c;cases e1<;>first|exact absurd rfl he|exact⟨rfl,rfl,rfl⟩
 |next h h1 h2 h3 h4 g=>exact h.mono λe1 f d ⟨a,b,c⟩=>by subst a b c;exact⟨_,h1,_,h2,h3,h4,g⟩
theorem EX.loop(I:Nat->AE->St->Prop){n:Nat}{s0:AE}(j:Sub s0 s)(h0:I n s0 H)
  (d:∀n b σ1,I n b σ1->EX P N D c (thn (λs' σ'=> ∃m,m<n/\∃k,Sub k s'/\ aM H.B.length H.T.length k=true/\(aQ H.B.length H.T.length (σ'.B.take H.B.length)&&aL H.B.length H.T.length (σ'.T.take H.T.length))=true/\
   I m k ⟨σ'.B.take H.B.length,σ'.T.take H.T.length⟩) K) b σ1):EX P N D (.loop c) K s H:=λhr=>by
 have u:∀n b σ1,I n b σ1->BC N D b σ1->∃e s' σ', K e s' σ'/\ Ch P N D c H.B.length H.T.length e s' σ' n b σ1:=by
  intro n
  induction n using Nat.strongRecOn with
  |ind n E=>
   intro b σ1 y i
   obtain⟨e,k,f,hk,O⟩:=d n b σ1 y i
   cases e with
   |normal=>
    obtain⟨m,v,x,h1,h2,h3,h4⟩:=hk
    have p:BC N D x ⟨f.B.take H.B.length,f.T.take H.T.length⟩:=by
     obtain⟨g,w,a,z,i2,i3,i4⟩:=i.next O
     obtain⟨l,o⟩:=(Bool.and_eq_true _ _).mp h3
     exact⟨_,w,a,pF z l o,λt=>Ab.aa _ _ (rP h2 t) (h1.a1 i2 t),i3,i4⟩
    obtain⟨e,s', σ', q,r⟩:=E m v x _ h4 p
    exact⟨e,s', σ', q, .next O v h1 h2 h3 r⟩
   |_=>exact⟨_,k,f,hk, .done O (λh=>Wu)⟩
 obtain⟨e,s', σ', q,r⟩:=u n s0 H h0 (hr.weaken j)
 exact⟨e,s', σ', q,r.loop j rfl rfl⟩
structure Nr(i:Nat)(s:AE)(H:St)(k:Nat)(s': AE)(σ': St):Prop where
 sub:Sub ((i, .int .i64 ((k+1:Nat):Int))::nub [i] s) s'
 same:(⟨σ'.B.take H.B.length,σ'.T.take H.T.length⟩:St)=H
def JI(i n:Nat){b:Nat}(cons:∀k:Nat,k<n->decide ((k:Int)<(n:Int))=true->EX P N D c (thn (Nr i s H k) K) ((i, .int .i64 k)::nub [i] s) H)
  (nil:∀k:Nat,n<=k->((k:Int)<=z0\/k<=n)->decide ((k:Int)<(n:Int))=false->EX P N D c (thn (λ_ _=>False) K) ((i, .int .i64 k)::nub [i] s) H) (X:lk? s i=some (.int .i64 z0):=by exact rfl) (hz0:z0=(b:Int):=by exact rfl):EX P N D (.loop c) K s H:=by
 subst hz0;refine x9 λhr=>EX.loop (λm d a=>∃k:Nat,m=n-k/\((k:Int)<=(b:Int)\/k<=n)/\d=(i, .int .i64 k)::nub [i] s/\a=H) (n:=n-b) (s0:=(i, .int .i64 (b:Int))::nub [i] s) ⟨g9 X,JH _ _⟩ ⟨b,rfl, .inl (Int.le_refl _),rfl,rfl⟩ ?_
 rintro m d a ⟨k,rfl,hkm,rfl,rfl⟩;by_cases h1:k<n
 ·refine(cons k h1 Xg).mono λe s' σ' h=> ?_
  cases e with
  |normal=>
   refine⟨n-(k+1),om,_,h.sub, ?_, ?_,k+1,rfl,om,rfl,h.same⟩
   ·rw[aM,hr.bs];rfl
   ·rw[show List.take a.B.length σ'.B=a.B from congrArg St.B h.same,show List.take a.T.length σ'.T=a.T from congrArg St.T h.same];exact hr.state
  |_=>exact h
 ·refine(nil k om hkm Wh).mono λe s' σ' h=> ?_
  cases e with
  |normal=>exact h.elim
  |_=>exact h
def MV(s:AE)(H:St)(b j:Nat):Option AV:=match lk? s b with
 |some (.slice xs t)=>some (.slice xs t)
 |some (.ab (.slice xs t))=>some (.slice xs t)
 |some (.ab (.agg cs))=>cs[j]?
 |some (.agg cs)=>cs[j]?
 |some (.ptr i off)=>(match H.B[i]? with
  |some (.cells cs)=>cs[off+j]?
  |_=>none)
 |_=>none
def Dd{g:Gh}{w:World}{v:Value}(h:Ab g w (.slice xs t) v):xs.length<=9223372036854775807:=by obtain⟨a,cap,sz,Vs,_,h1,h2,_,h4,_,_⟩:=h;have:=h4.length;have b:cap<=9223372036854775807:=h2;omega
def GE{b:Nat}{x:AV}(hr:BC N D s H)(h:MV s H b j=some x):∃g w v,Ab g w x v:=by
 obtain⟨g,w,a,X,hs,_⟩:=hr;have hb:=hs b;unfold MV at h;split at h
 ·rename_i h1;rw[g9 h1]at hb;cases h;exact⟨_,_,_,hb⟩
 ·rename_i h1;rw[g9 h1]at hb;cases h;obtain⟨_,_,_,_,_,h2⟩:=hb;exact⟨_,_,_,h2⟩
 ·rename_i h1;rw[g9 h1]at hb;obtain⟨_,_,_,_,_,vs,_,h2,_⟩:=hb;obtain⟨_,_,h3⟩:=h2.get h;exact⟨_,_,_,h3⟩
 ·rename_i h1;rw[g9 h1]at hb;obtain⟨vs,_,h2,_⟩:=hb;obtain⟨_,_,h3⟩:=h2.get h;exact⟨_,_,_,h3⟩
 ·rename_i h1;rw[g9 h1]at hb;obtain⟨d,c,_⟩:=hb;split at h
  ·rename_i h2;obtain⟨J,R,_,h3,_⟩:=X.ob _ _ _ c h2;obtain⟨_,_,h4⟩:=h3.get h;exact⟨_,_,_,h4⟩
  ·cases h
 ·cases h
def Ut(j:Nat):AV->Option AV
 | .slice xs t=>some (.slice xs t)
 | .agg cs=>cs[j]?
 |_=>none
def Ov{b i:Nat}{c:List AV}{t2:Tk}(hr:BC N D s H)(h:MV s H b j=some (.slice xs t))(Y:xs[k]? =some y)(h2:Ut i y=some (.slice c t2)):c.length<=9223372036854775807:=by
 obtain⟨g,w,v,a,cap,sz,Vs,_,_,_,_,h4,_,_⟩:=GE hr h;obtain⟨_,_,d⟩:=h4.get Y;unfold Ut at h2;split at h2
 ·cases h2;exact Dd d
 ·obtain⟨vs,_,e,_⟩:=d;obtain⟨_,_,f⟩:=e.get h2;exact Dd f
 ·cases h2
class Ay(xs:List AV){α:outParam Type}(L:outParam (List α))(E:outParam (α->AV)):Prop where
 eq:xs=L.map E
instance {α:Type}{L:List α}{E:α->AV}:Ay (L.map E) L E:=⟨rfl⟩
inductive CN where
 |f (b j i:Nat)
 |g (b j j2 i:Nat)
 |u (q i:Nat)
 |no
inductive Root where
 |slot (b off:Nat)
 |elem (b j off:Nat)
 |no
def GF:Code->List Oper
 | .region _ ops _=>ops.toList
 | .seq a _=>GF a
 |_=>[]
def Lh:List Oper->Nat->Option Op
 |[],_=>none
 |o::l,t=>match o.dst with
  |some d=>bif Nat.beq d t then some o.op else Lh l t
  |none=>Lh l t
def Vj(P:Program)[Lay P](T f:Nat):Nat:=match ty? P T with
 |some ti=>(match ti.fields[f]? with
  |some (o,_,_)=>o
  |none=>0)
 |none=>0
def PU(P:Program)[Lay P](ops:List Oper):Nat->Nat->Nat->Root
 |0,_,_ => .no
 |n+1,t,off=>match Lh ops t with
  |none => .slot t off
  |some (.fieldAddr T (.tmp x) f)=>PU P ops n x (off+Vj P T f)
  |some (.field T (.tmp x) f)=>PU P ops n x (off+Vj P T f)
  |some (.load _ (.tmp x))=>PU P ops n x off
  |some (.move (.tmp x))=>PU P ops n x off
  |some (.indexAddr _ (.tmp x) _)=>(match PU P ops n x 0 with
   | .slot b j => .elem b j off
   |_ => .no)
  |_ => .no
def Vk:List Oper->Option (Nat×Nat)
 |[]=>none
 |o::l=>match o.op with
  | .binOp .lss _ (.tmp x) (.tmp y) _=>some (x,y)
  |_=>Vk l
def EN(n:Nat)(k:Nat->CN):CN:=match n with
 |0=>k 0
 |m+1=>k (m+1)
def wW(P:Program)[Lay P](c:Code):CN:=match Vk (GF c) with
 |none => .no
 |some (x,y)=>
  let i:=match Lh (GF c) x with
   |some (.move (.tmp i))=>i
   |_=>x
  EN i λi=>match Lh (GF c) y with
  |none=>EN y λy => .u y i
  |some (.move (.tmp q))=>EN q λq => .u q i
  |some (.call c')=>(match c'.args.toList with
   |[.tmp z]=>(match PU P (GF c) 12 z 0 with
    | .slot b j=>EN b λb=>EN j λj => .f b j i
    | .elem b j j2=>EN b λb=>EN j λj=>EN j2 λj2 => .g b j j2 i
    | .no => .no)
   |_ => .no)
  |_ => .no
theorem EX.F[Lay P]{b i e:Nat}{tk:Tk}{L:List α}{E:α->AV}(cons:∀(k:Nat) (h:k<L.length),decide ((k:Int)<(L.length:Int))=true->decide ((k:Int)<(xs.length:Int))=true->xs[k]? =some (E L[k])->L[k]∈L->L.length<=9223372036854775807->EX P N D c (thn (Nr i s H k) K) ((i, .int .i64 k)::nub [i] s) H)
  (nil:∀k:Nat,L.length<=k->((k:Int)<=z0\/k<=L.length)->decide ((k:Int)<(L.length:Int))=false->decide ((k:Int)<(xs.length:Int))=false->EX P N D c (thn (λ_ _=>False) K) ((i, .int .i64 k)::nub [i] s) H) (hh:wW P c = .f b j i:=by exact rfl) (hb:MV s H b j=some (.slice xs tk):=by exact rfl) (d:Ay xs L E:=by infer_instance) (X:lk? s i=some (.int .i64 z0):=by exact rfl) (hz0:z0=(e:Int):=by exact rfl):EX P N D (.loop c) K s H:=by
 refine x9 λhr=> ?_
 obtain⟨_,_,_,h0⟩:=GE hr hb;have hl:=Dd h0;have he:=d.eq;have a:xs.length=L.length:=Zb
 exact JI i L.length (λk h1 h2=>cons k h1 h2 (by rw[a];exact h2) (by rw[he];simp[h1]) (getElem_mem h1) om) (λk h1 d h=>nil k h1 d h (by rw[a];exact h)) X hz0
theorem EX.G[Lay P]{b l i n m:Nat}{a:List AV}{tk f:Tk}{L:List α}{E:α->AV}(cons:∀(k:Nat) (h:k<L.length),decide ((k:Int)<(L.length:Int))=true->decide ((k:Int)<(a.length:Int))=true->a[k]? =some (E L[k])->L[k]∈L->L.length<=9223372036854775807->EX P N D c (thn (Nr i s H k) K) ((i, .int .i64 k)::nub [i] s) H)
  (nil:∀k:Nat,L.length<=k->((k:Int)<=z0\/k<=L.length)->decide ((k:Int)<(L.length:Int))=false->decide ((k:Int)<(a.length:Int))=false->EX P N D c (thn (λ_ _=>False) K) ((i, .int .i64 k)::nub [i] s) H) (hh:wW P c = .g b j l i:=by exact rfl) (hb:MV s H b j=some (.slice xs tk):=by exact rfl) (Y:xs[n]? =some y:=by assumption) (h2:Ut l y=some (.slice a f):=by exact rfl) (e:Ay a L E:=by infer_instance) (X:lk? s i=some (.int .i64 z0):=by exact rfl) (hz0:z0=(m:Int):=by exact rfl):EX P N D (.loop c) K s H:=by
 refine x9 λhr=> ?_
 have hl:=Ov hr hb Y h2;have he:=e.eq;have d:a.length=L.length:=Zb
 exact JI i L.length (λk h1 h2=>cons k h1 h2 (by rw[d];exact h2) (by rw[he];simp[h1]) (getElem_mem h1) om) (λk h1 e h=>nil k h1 e h (by rw[d];exact h)) X hz0
def EX.U[Lay P]{q i d:Nat}{a:Int}(cons:∀k:Nat,k<n->(k:Int)<a->decide ((k:Int)<(n:Int))=true->EX P N D c (thn (Nr i s H k) K) ((i, .int .i64 k)::nub [i] s) H)
  (nil:∀k:Nat,n<=k->a<=(k:Int)->((k:Int)<=z0\/k<=n)->decide ((k:Int)<(n:Int))=false->EX P N D c (thn (λ_ _=>False) K) ((i, .int .i64 k)::nub [i] s) H) (hh:wW P c = .u q i:=by exact rfl) (e:lk? s q=some (.int .i64 a):=by exact rfl) (b:a=(n:Int):=by exact rfl) (X:lk? s i=some (.int .i64 z0):=by exact rfl) (hz0:z0=(d:Int):=by exact rfl):EX P N D (.loop c) K s H:=JI i n (λk h=>cons k h om) (λk h=>nil k h om) X hz0
end
class EC(P:Program)(f:FuncId)(args:List AV){α:outParam Type}(E:outParam (α->AV))(Q:outParam (α->Prop)):Prop where
 ex:∃a args', Q a/\AA args args'/\ AN P f args' (E a)
section
variable {P:Program} {A:Array Oper} {G:Bool} {K:AX->AE->St->Prop} {C:List Oper} {I:List Ak} {s:AE} {H:St} {d:Option Tmp} {R:TypeId} {D:String} {S:Array Edge}
def AD.ce{args:Array Operand}{p:Array TypeId}{J:List AV}{E:α->AV}(k:∀a:α,Q a->AD P A G K C (.pure::I) (iJ d (E a) s) H)(ha:j7 s args.toList some=some J:=by exact rfl)(h:EC P f J E Q:=by infer_instance):
  AD P A G K (⟨d, .call ⟨.value (.func f),args,p⟩,R,D,S,none⟩::C) I s H:=
 let ⟨a,_,h1,h2,h3⟩:=h.ex
 aH (ha:=ha) (hw:=h2) h3 (k a h1)
end
theorem EC.enter{P:Program}{args d:List AV}{c:Code}{N:Nat}{E:α->AV}(ts:List Nat)(hf:P.funcs[f]? =some fn)(h:EX P N [] c (fin ts (λe _=>∃a,Q a/\∃v,e = .ret v/\AC v (E a))) (cB 0 d) ⟨[],[]⟩)
  (hb:fn.body=some c:=by exact rfl) (r:fn.ntmps=N:=by exact rfl) (j:(fn.name == "runtime.NumGoroutine")=false:=by exact rfl) (i:Nat.ble d.length N=true:=by exact rfl) (k:fn.results=(ts.map ResultVar.tmp).toArray:=by exact rfl) (p:ts.length<=6:=by decide)
  (hE:∀a,(E a).K=true) (hQ:∃a,Q a) (ha:aB d=true) (hw:AA args d):EC P f args E Q:=by
 by_cases hr:BC N [] (cB 0 d) ⟨[],[]⟩
 ·obtain⟨e,s', σ', hk,O⟩:=h hr;have q:∀ {o},fin ts o e s' σ'-> AQ P f d ⟨[],[]⟩ o:=λhp=>AQ.enter ts hf hb r j i k p (O.mono λe1 y u ⟨a,b,c⟩=>by subst a b c;exact hp)
  cases e with
  |normal=>obtain⟨a,n,v,hv,m⟩:=hk;exact⟨a,d,n,hw,AQ.plain (hE a) ha (q ⟨v,hv,m⟩)⟩
  |ret=>obtain⟨a,n,v,hv,m⟩:=hk;exact⟨a,d,n,hw,AQ.plain (hE a) ha (q ⟨v,hv,m⟩)⟩
  |pan x=>obtain⟨a,n,v,hv,_⟩:=hk;cases hv
  |exit id=>exact hk.elim
  |goto l=>exact hk.elim
 ·obtain⟨a,n⟩:=hQ;refine⟨a,d,n,hw,AQ.plain (hE a) ha (AQ.enter ts hf hb r j i k p λg w t X hs h1 h2=>absurd ⟨g,w,t,X,hs,h1,h2⟩ hr)⟩
theorem PV{P:Program}[Lay P]{args d:List AV}{c:Code}{N:Nat}{E:α->AV}(p:List ResultVar)(hf:P.funcs[f]? =some fn)(h:EX P N [] c (O4 P p (λe _=>∃a,Q a/\∃v,e = .ret v/\AC v (E a))) (cB 0 d) ⟨[],[]⟩)
  (hb:fn.body=some c:=by exact rfl) (t:fn.ntmps=N:=by exact rfl) (j:(fn.name == "runtime.NumGoroutine")=false:=by exact rfl) (i:Nat.ble d.length N=true:=by exact rfl) (k:fn.results=p.toArray:=by exact rfl)
  (hE:∀a,(E a).K=true) (hQ:∃a,Q a) (ha:aB d=true) (hw:AA args d):EC P f args E Q:=by
 by_cases hr:BC N [] (cB 0 d) ⟨[],[]⟩
 ·obtain⟨e,s', σ', hk,O⟩:=h hr;have r:∀ {o},O4 P p o e s' σ'-> AQ P f d ⟨[],[]⟩ o:=λhp=>xM p hf hb t j i k (O.mono λe1 s1 z ⟨a,b,c⟩=>by subst a b c;exact hp)
  cases e with
  |normal=>obtain⟨u,q,a,n,v,hv,m⟩:=hk;exact⟨a,d,n,hw,AQ.plain (hE a) ha (r ⟨u,q,v,hv,m⟩)⟩
  |ret=>obtain⟨u,q,a,n,v,hv,m⟩:=hk;exact⟨a,d,n,hw,AQ.plain (hE a) ha (r ⟨u,q,v,hv,m⟩)⟩
  |pan x=>obtain⟨a,n,v,hv,_⟩:=hk;cases hv
  |exit id=>exact hk.elim
  |goto l=>exact hk.elim
 ·obtain⟨a,n⟩:=hQ;refine⟨a,d,n,hw,AQ.plain (hE a) ha (xM p hf hb t j i k λg w y X hs h1 h2=>absurd ⟨g,w,y,X,hs,h1,h2⟩ hr)⟩
theorem EX.s1{P:Program}[Lay P]{N:Nat}{D:List Deferred}{c:Code}{K:AX->AE->St->Prop}{s:AE}{H:St}{Q:Prop}(q:Q)
  (h:BY Q->EX P N D c K s H:=by intro q;(first|refine .seq ?_|refine .rg ?_|refine .rd ?_|refine .block ?_|refine .scope ?_|refine .skip ?_|refine .label ?_|refine .exit ?_|refine .ret ?_|refine .ct ?_|refine .cf ?_|refine .cy ?_|refine .cn ?_|refine cS ?_|refine .nl ?_|refine .dd ?_|refine .ys ?_|refine .no ?_|refine .lb ?_|refine .ln ?_|refine .ls ?_|refine .pv ?_|refine .ix ?_|refine .pt ?_|refine .pf ?_|refine .bx ?_|refine .al ?_|refine .st ?_|refine .ad ?_|refine .sb ?_|refine .mf ?_|refine .cl ?_|refine .cw ?_|refine .ck ?_);exact q.val):EX P N D c K s H:=h ⟨q⟩
def nr{i k:Nat}{s s': AE}{H σ': St}(hs:Av.Sub ((i, .int .i64 ((k+1:Nat):Int))::nub [i] s) s':= by (repeat' first|exact trivial|refine⟨rfl, ?_⟩))(h:(⟨σ'.B.take H.B.length,σ'.T.take H.T.length⟩:St)=H:=by exact rfl):Nr i s H k s' σ':= ⟨hs,h⟩
def fe{ts:List Nat}{s:AE}{E:α->AV}{a:α}(hw:AC (gK s ts) (E a):=by first|exact aG _|((repeat' first|exact aG _|exact aD _|refine AC.tup ?_|refine AC.agg ?_|refine AA.cons ?_ ?_|exact AC.no (aD _));done))(hQ:Q a:=by first|trivial|exact Nat.zero_le _|((try dsimp only at *);omega)|infer_instance|(simp_all;done)|grind):∃a,Q a/\∃v,Av.ret (gK s ts) = .ret v/\AC v (E a):=⟨a,hQ,_,rfl,hw⟩
theorem fr{P:Program}[Lay P]{b:List ResultVar}{s:AE}{H:St}{E:α->AV}{a:α}{v:AV}(h:resK? P s H b nK=some v:=by exact rfl)(hw:AC v (E a):=by first|exact aG _|((repeat' first|exact aG _|exact aD _|refine AC.tup ?_|refine AC.agg ?_|refine AA.cons ?_ ?_|exact AC.no (aD _));done))(hQ:Q a:=by first|trivial|exact Nat.zero_le _|((try dsimp only at *);omega)|infer_instance|(simp_all;done)|grind):∃c,resK? P s H b nK=some c/\∃a,Q a/\∃v,Av.ret c = .ret v/\AC v (E a):=⟨_,h,a,hQ,_,rfl,hw⟩
end Go.Av
namespace Go.Proofs.YtdodieljpcfpcaaGreatDoor
open Go Go.Av Go.Proofs.Tryz
instance:Inhabited Ae:=⟨⟨[],0,0⟩⟩
instance:Inhabited AH:=⟨.mk 0 0 [] [] []⟩
instance:Inhabited AO:=⟨⟨[],default,false,default⟩⟩
instance (v:AH):Ay v.lv v.l AH.C:=⟨v.b0⟩
instance (v:AH):Ay v.mv v.m AG.C:=⟨v.bf⟩
variable [AK] {P:Program} [Lay P]
theorem en{args:List AV}{c:Code}{N:Nat}{E:α->AV}(ts:List Nat)(hf:P.funcs[f]? =some fn)(h:EX P N [] c (fin ts (λe _=>∃a,Q a/\∃v,e = .ret v/\AC v (E a))) (cB 0 args) ⟨[],[]⟩)
  (hb:fn.body=some c:=by exact rfl) (j:fn.ntmps=N:=by exact rfl) (d:(fn.name == "runtime.NumGoroutine")=false:=by exact rfl) (b:Nat.ble args.length N=true:=by exact rfl) (g:fn.results=(ts.map ResultVar.tmp).toArray:=by exact rfl) (i:ts.length<=6:=by decide)
  (hE:∀a,(E a).K=true:=by intro a;first|exact rfl|simp[-List.map_map,AV.K,aB,aR,b9,aT,b8,gF,dS,aZ,dT,AH.K,Ah.K,Ag.K,Af.K,AI.K,AR.K,Ae.K,AO.K]) (hQ:∃a,Q a:=by exact⟨default,by first|trivial|exact Nat.zero_le _|exact⟨Wc⟩|omega|simp|fail⟩)
  (ha:aB args=true:=by first|exact rfl|simp[-List.map_map,AV.K,aB,aR,b9,aT,b8,gF,dS,aZ,dT,AH.K,Ah.K,Ag.K,Af.K,AI.K,AR.K,Ae.K,As.K,Sl.K,AO.K,AM.K,Aj.K]):EC P f args E Q:=
 EC.enter ts hf h hb j d b g i hE hQ ha (aD _)
theorem enR{args:List AV}{c:Code}{N:Nat}{E:α->AV}(i:List ResultVar)(hf:P.funcs[f]? =some fn)(h:EX P N [] c (O4 P i (λe _=>∃a,Q a/\∃v,e = .ret v/\AC v (E a))) (cB 0 args) ⟨[],[]⟩)
  (hb:fn.body=some c:=by exact rfl) (j:fn.ntmps=N:=by exact rfl) (d:(fn.name == "runtime.NumGoroutine")=false:=by exact rfl) (b:Nat.ble args.length N=true:=by exact rfl) (g:fn.results=i.toArray:=by exact rfl)
  (hE:∀a,(E a).K=true:=by intro a;first|exact rfl|simp[-List.map_map,AV.K,aB,aR,b9,aT,b8,gF,dS,aZ,dT,AH.K,Ah.K,Ag.K,Af.K,AI.K,AR.K,Ae.K,AO.K]) (hQ:∃a,Q a:=by exact⟨default,by first|trivial|exact Nat.zero_le _|exact⟨Wc⟩|omega|simp|fail⟩)
  (ha:aB args=true:=by first|exact rfl|simp[-List.map_map,AV.K,aB,aR,b9,aT,b8,gF,dS,aZ,dT,AH.K,Ah.K,Ag.K,Af.K,AI.K,AR.K,Ae.K,As.K,Sl.K,AO.K,AM.K,Aj.K]):EC P f args E Q:=
 PV i hf h hb j d b g hE hQ ha (aD _)
abbrev EB[AK](f:FuncId)(args:List AV):Prop:=EC prog f args (λb:Bool => .bool b) (λ_=>True)
end Go.Proofs.YtdodieljpcfpcaaGreatDoor
namespace Go.Av
open Go
theorem Se{v:Tok}:∀ {k:Nat} {T:List Tok} {f:List Tok->Option (List Tok)},k<T.length->j5 k v T f=f (T.set k v)
 |0,x::T,f,_=>rfl
 |k+1,x::T,f,h=>by rw[j5,Se Wp];rfl
 |_,[],_,h=>Wm
attribute [local irreducible] AB AD AN AQ Av.AS AZ
theorem Vl{a n:Nat}(y:AV):∀xs:List AV,aE a n (xs++[y])=(aE a n xs&&y.aa a n)
 |[]=>by simp[aE]
 |x::xs=>by rw[List.cons_append,aE,aE,Vl y xs,Bool.and_assoc]
theorem Vm{Q N:Nat->Nat}(y:AV):∀xs:List AV,aW Q N (xs++[y])=aW Q N xs++[y.ae Q N]
 |[]=>by simp[aW]
 |x::xs=>by rw[List.cons_append,aW,aW,Vm y xs];rfl
section
variable [AK]
variable {P:Program} {A:Array Oper} {G:Bool} {K:AX->AE->St->Prop} {C:List Oper} {I:List Ak} {s:AE} {H:St} {d:Option Tmp} {R:TypeId} {D:String} {S:Array Edge}
def aC2{args:Array Operand}{p:Array TypeId}{cls cls': List AV}{z n c:Nat}{T': List Tok}(j:Nat)(ha:j7 s args.toList some=some (cls++[.slice xs (.own j z)]))
  (hp:AQ P f (cls'++ [.slice xs (.own 0 z)]) ⟨[],[.len n]⟩ (λe g=>e = .ret (.slice ys (.own 0 z))/\g=⟨[],[.len c]⟩)) (hj:H.T[j]? =some (.len n)) (Y:aB xs=true) (hy:aB ys=true) (O:aB cls'= true) (hw:AA (cls++[.slice xs (.own j z)]) (cls'++ [.slice xs (.own j z)]))
  (hT': j5 j (.len c) H.T some=some T') (k:AD P A G K C (.all::I) (iJ d (.slice ys (.own j z)) s) ⟨H.B,T'⟩):AD P A G K (⟨d, .call ⟨.value (.func f),args,p⟩,R,D,S,none⟩::C) I s H:=by
 have b:j<H.T.length:=(List.getElem?_eq_some_iff.1 hj).1;have l:emb H.T.length [j] 0=j:=rfl;refine lX (nB:=H.B.length) (nT:=H.T.length) (B0:=[]) (T0:=[.len n]) (B1:=[]) (T1:=[.len c]) (v0 := .slice ys (.own 0 z)) [] [j] ha hp rfl rfl ⟨List.nodup_nil,Wa⟩ ⟨Wa,YC⟩ rfl rfl (λk i ob h=>Wm) (λk i t h ht=> ?_) rfl rfl
  ?_ ?_ ?_ (B':= H.B) (T':= T') ?_ ?_ k
 ·cases k with
  |zero=>simp at h ht;subst h;subst ht;exact hj
  |succ k=>simp at h
 ·rw[Vl,aC _ _ _ O,AV.aa,aC _ _ _ Y];rfl
 ·rw[Vm,aS _ _ _ O,AV.ae,aS _ _ _ Y];exact hw
 ·rw[AV.ae,aS _ _ _ hy];rfl
 ·rw[pI];simp
 ·obtain⟨_,a⟩:=d6 _ _ _ _ _ hT';rw[<-Option.some.inj a];simp[fA,upd,Tok.ae]
end
end Go.Av
