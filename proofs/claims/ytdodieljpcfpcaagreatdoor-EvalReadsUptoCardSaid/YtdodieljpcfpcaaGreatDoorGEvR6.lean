/- Joined texts. -/
import Derived.Test.YtdodieljpcfpcaaGreatDoorGEvR4
set_option maxRecDepth 100000
set_option maxHeartbeats 16000000
set_option linter.all false
open List (getElem_mem length_nil mem_singleton nodup_range take_length take_succ_cons)
open Nat (le_refl le_trans)
open Bool (and_eq_true)
open Go Go.Av Go.Proofs.YtdodieljpcfpcaaGreatDoor Go.Proofs.Tryz
variable{α:Type}{n:AF}{c y f g h i k o m:AV}{args:Array Operand}{p:Array TypeId}{J vals0:List AV}{B0 B1 B:List Ob}{T' T1:List Tok}{nB z:Nat}{x:Operand}{b:St}{T:TypeId}
namespace Go.Proofs.YtdodieljpcfpcaaGreatDoor
open Go Go.Av Go.Proofs.Tryz
attribute [local irreducible] AB AD AN AQ Av.AS AZ
def iG(r:Row)(name:AF):AH:=(bR name r.aq).1
def col(r:Row)(name:AF)(hl:r.aq.length<=9223372036854775807):AN prog 63 [r.C, .str name] (iG r name).C:=by
 refine pER [.cell 4 43] func63 (O:=AH.K _) (ha:=by simp[aB,AV.K,Row.K]) ?_;have a:=get name r.aq hl;repeat' first|refine dB ?_|refine .s1 ?_|(refine .q ?_ ?_<;>intro O)|refine aH a ?_|fail
 exact aO
def jE(n:Int):Bool:=decide (-2147483648<=n)&&decide (n<=2147483647)
def within(n:Int):AN prog 254 [.int .i64 n] (.bool (jE n)):=by
 refine pEn 2 func254 ?_;repeat' first|refine .s1 ?_|(refine .q ?_ ?_<;>intro O)|fail
 all_goals refine aP rfl (AC.eq ?_)
 all_goals first|(simp_all[jE];done)|(simp_all[jE];omega)
def uZ:AF:=[112,117,116]
def vA:AF:=[99,117,116]
def SI:AF:=[97,100,100]
def lD:AF:=[98,117,114,110]
def iH:AF:=[107,101,121]
def sBy:AF:=[98,121]
def uK(n:AF):Bool:=n==uZ||n==vA||n==SI||n==lD
def Vp(n:AF):AN prog 184 [.str n] (.bool (uK n)):=by
 refine pEn 2 func184 ?_;repeat' first|refine .s1 ?_|(refine .q ?_ ?_<;>intro O)|fail
 all_goals refine aP rfl (AC.eq ?_)
 all_goals simp_all[uK,uZ,vA,SI,lD]
def eW:List AG->List AG->List AG
 |[],cols=>cols
 |m::args,cols=>eW args (if m.name != iH then oV cols m.name m.v else cols)
theorem iU{l a:List AG}{k:Nat}(h:k<l.length):eW (l.drop k) a=eW (l.drop (k+1)) (if l[k].name != iH then oV a l[k].name l[k].v else a):=by rw[List.drop_eq_getElem_cons h,eW]
def qD(l:List AG)(n:AF)(v:AH):(oV l n v).length<=l.length+1:=by
 unfold oV;split
 ·simp
 ·unfold yT;split<;>simp
def q9:∀(args a:List AG),(eW args a).length<=a.length+args.length
 |[],a=>by simp[eW]
 |m::args,a=>by rw[eW];have h1:=q9 args (if m.name != iH then oV a m.name m.v else a);have h2:=qD a m.name m.v;grind
structure BM(B:Nat)(l:List AY):Prop where
 len:l.length<=B
 af:∀t∈l,t.af.length<=B
 aq:∀t∈l,∀r∈t.af,r.aq.length<=B
def uL(c:BH)(key:AF)(g:Bt):Row:=
 let r:=if g.is then g.row else ⟨key,c.av,[],false⟩
 { r with aq:=eW c.args r.aq }
def aDw(l:List AY)(c:BH)(a:AF)(g:Bt)(hf:BM 1048576 l)(O:g.row.aq.length+c.args.length<=1048576):
  AN prog 185 [Tbls.C l,c.C, .str a,g.C] (.tup [Tbls.C (sM l c.table (uL c a g)),(jJ a).C, .int .i64 0]):=by
 refine pER [.tmp 8, .cell 9 43, .tmp 10] func185 (O:=by simp[AV.K,aB,AH.K,Tbls.K]) (ha:=by simp[AV.K,aB,Tbls.K,BH.K,Bt.K]) ?_;obtain⟨o,e⟩:∃o:Row,o=if g.is then g.row else ⟨a,c.av,[],false⟩:=⟨_,rfl⟩
 have m:uL c a g={ o with aq:=eW c.args o.aq }:=by unfold uL;rw[e]
 have d:o.aq.length+c.args.length<=1048576:=by
  rw[e];split
  ·exact O
  ·simp only[length_nil];omega
 have hpl:=q9 c.args o.aq;have b:=put l c.table (uL c a g) hf.len hf.af hf.aq (by rw[m];dsimp only;omega);have p:=Hv a;rw[m]at b ⊢;cases j:g.is
 ·have h:o=⟨a,c.av,[],false⟩:=by rw[e,j];rfl
  rw[h]at b d hpl ⊢;clear h e m;have u:(!g.is)=true:=YA
  repeat' first|refine dB ?_|refine .s1 ?_|(refine .q ?_ ?_<;>intro O)|fail|fail
  change AB _ _ _ _ _ _ _;refine f8 1 2 rfl rfl (AJ.a6 (AC.no (aD _))) rfl ?_;refine AB.loop (λn s H=>∃(k:Nat) (cols:List AG),n=c.args.length-k/\k<=c.args.length/\cols.length+(c.args.length-k)<=1048576/\eW c.args (⟨a,c.av,[],false⟩:Row).aq=eW (c.args.drop k) cols/\
   H=⟨[.cells fI, .cells [.str (⟨a,c.av,[],false⟩:Row).key, .str (⟨a,c.av,[],false⟩:Row).av, .slice (cols.map AG.C) .no, .bool (⟨a,c.av,[],false⟩:Row).broken]],[]⟩/\
   s=[(26, .int .i64 k),(25, .int .i64 c.args.length),(24, .slice (c.args.map AG.C) .no),(0,Tbls.C l),(5, .ab c.C),(2, .str a),(11, .ptr 1 0),(9, .ptr 0 0)])
   (s0:=[(26, .int .i64 (0:Nat)),(25, .int .i64 c.args.length),(24, .slice (c.args.map AG.C) .no),(0,Tbls.C l),(5, .ab c.C),(2, .str a),(11, .ptr 1 0),(9, .ptr 0 0)])
   Z0 ⟨0,(⟨a,c.av,[],false⟩:Row).aq,rfl,Nat.zero_le _,(by rw[Nat.sub_zero];exact d),rfl,rfl,rfl⟩ ?_
  rintro n s H ⟨k,cols,rfl,hk,hcl,hp,rfl,rfl⟩;by_cases h1:k<c.args.length
  ·have r:=ltT h1;have x1:=aU (f:=AG.C) h1;have i:=set cols c.args[k].name c.args[k].v om;have t:=qD cols c.args[k].name c.args[k].v
   repeat' first|refine .s1 ?_|(refine .q ?_ ?_<;>intro O)|refine aH i ?_|fail
   ·refine⟨c.args.length-(k+1),om,[(26, .int .i64 ((k+1:Nat):Int)),(25, .int .i64 c.args.length),(24, .slice (c.args.map AG.C) .no),(0,Tbls.C l),(5, .ab c.C),(2, .str a),(11, .ptr 1 0),(9, .ptr 0 0)],
     Z0,Wr,Xe,k+1,oV cols c.args[k].name c.args[k].v,rfl,om,om, ?_,rfl,rfl⟩
    rw[hp,iU h1,if_pos Yn]
   ·refine⟨c.args.length-(k+1),om,[(26, .int .i64 ((k+1:Nat):Int)),(25, .int .i64 c.args.length),(24, .slice (c.args.map AG.C) .no),(0,Tbls.C l),(5, .ab c.C),(2, .str a),(11, .ptr 1 0),(9, .ptr 0 0)],
     Z0,Wr,Xe,k+1,cols,rfl,om,om, ?_,rfl,rfl⟩
    rw[hp,iU h1,if_neg Yn]
  ·have r:=ltF h1;rw[List.drop_eq_nil_of_le om,eW]at hp;rw[hp]at b ⊢
   repeat' first|refine .s1 ?_|(refine .q ?_ ?_<;>intro O)|refine aH b ?_|refine aH p ?_|fail
   exact aO
 ·have h:o=g.row:=by rw[e,j];rfl
  rw[h]at b d hpl ⊢;clear h e m;have u:(!g.is)=false:=YA
  repeat' first|refine dB ?_|refine .s1 ?_|(refine .q ?_ ?_<;>intro O)|fail|fail
  change AB _ _ _ _ _ _ _
  skip
  refine AB.loop (λn s H=>∃(k:Nat) (cols:List AG),n=c.args.length-k/\k<=c.args.length/\cols.length+(c.args.length-k)<=1048576/\eW c.args (g.row:Row).aq=eW (c.args.drop k) cols/\
   H=⟨[.cells fI, .cells [.str (g.row:Row).key, .str (g.row:Row).av, .slice (cols.map AG.C) .no, .bool (g.row:Row).broken]],[]⟩/\
   s=[(26, .int .i64 k),(25, .int .i64 c.args.length),(24, .slice (c.args.map AG.C) .no),(0,Tbls.C l),(5, .ab c.C),(2, .str a),(11, .ptr 1 0),(9, .ptr 0 0)])
   (s0:=[(26, .int .i64 (0:Nat)),(25, .int .i64 c.args.length),(24, .slice (c.args.map AG.C) .no),(0,Tbls.C l),(5, .ab c.C),(2, .str a),(11, .ptr 1 0),(9, .ptr 0 0)])
   Z0 ⟨0,(g.row:Row).aq,rfl,Nat.zero_le _,(by rw[Nat.sub_zero];exact d),rfl,rfl,rfl⟩ ?_
  rintro n s H ⟨k,cols,rfl,hk,hcl,hp,rfl,rfl⟩;by_cases h1:k<c.args.length
  ·have r:=ltT h1;have x1:=aU (f:=AG.C) h1;have i:=set cols c.args[k].name c.args[k].v om;have t:=qD cols c.args[k].name c.args[k].v
   repeat' first|refine .s1 ?_|(refine .q ?_ ?_<;>intro O)|refine aH i ?_|fail
   ·refine⟨c.args.length-(k+1),om,[(26, .int .i64 ((k+1:Nat):Int)),(25, .int .i64 c.args.length),(24, .slice (c.args.map AG.C) .no),(0,Tbls.C l),(5, .ab c.C),(2, .str a),(11, .ptr 1 0),(9, .ptr 0 0)],
     Z0,Wr,Xe,k+1,oV cols c.args[k].name c.args[k].v,rfl,om,om, ?_,rfl,rfl⟩
    rw[hp,iU h1,if_pos Yn]
   ·refine⟨c.args.length-(k+1),om,[(26, .int .i64 ((k+1:Nat):Int)),(25, .int .i64 c.args.length),(24, .slice (c.args.map AG.C) .no),(0,Tbls.C l),(5, .ab c.C),(2, .str a),(11, .ptr 1 0),(9, .ptr 0 0)],
     Z0,Wr,Xe,k+1,cols,rfl,om,om, ?_,rfl,rfl⟩
    rw[hp,iU h1,if_neg Yn]
  ·have r:=ltF h1;rw[List.drop_eq_nil_of_le om,eW]at hp;rw[hp]at b ⊢
   repeat' first|refine .s1 ?_|(refine .q ?_ ?_<;>intro O)|refine aH b ?_|refine aH p ?_|fail
   exact aO
def kK(n:Int):Int:=IntKind.i64.wrap n
def G1(l:List AY)(c:BH)(r:Row):List AY×AH×Int:=
 let b:=(bR sBy c.args).1
 let w:=iG r c.col
 if b.kind != 2 then (l,bO,1)
 else if w.kind != 2 then (l,bO,7)
 else if !jE b.n || !jE w.n || !jE (kK (b.n+w.n)) then (l,bO,8)
 else (sM l c.table { r with aq:=oV r.aq c.col (zO (kK (b.n+w.n))) },zO (kK (b.n+w.n)),0)
def uM{l:List AY}{v:AH}{e:Int}:(AV.tup [Tbls.C l,v.C, .int .i64 e]).K=true:=by simp[AV.K,aB,AH.K,Tbls.K]
def qE{l:List AY}{n:Int}{e:Int}{s:AF}{k:Int}{t1 t2:Tk}:AC (.tup [Tbls.C l, .agg [.int .i64 k, .int .i64 n, .str s, .slice [] t1, .slice [] t2], .int .i64 e]) (.tup [Tbls.C l,(AH.mk k n s [] []).C, .int .i64 e]):=
 AC.tup (AA.cons (aG _) (AA.cons cE (aD _)))
def aDx(l:List AY)(c:BH)(r:Row)(hf:BM 1048576 l)(O:r.aq.length+1<=1048576)(ha:c.args.length<=1048576):
  AN prog 187 [Tbls.C l,c.C,r.C] (.tup [Tbls.C (G1 l c r).1,(G1 l c r).2.1.C, .int .i64 (G1 l c r).2.2]):=by
 refine AQ.plain uM (by simp[AV.K,aB,Tbls.K,BH.K,Row.K]) (wA [.tmp 6, .cell 7 43, .tmp 8] func187 ?_);have i:=get sBy c.args om;have a:=col r c.col om;have e:=within (bR sBy c.args).1.n;have f:=within (iG r c.col).n;have g:=within (kK ((bR sBy c.args).1.n+(iG r c.col).n));have wW:=aDj (kK ((bR sBy c.args).1.n+(iG r c.col).n));have d:=set r.aq c.col (zO (kK ((bR sBy c.args).1.n+(iG r c.col).n))) om;have h:=qD r.aq c.col (zO (kK ((bR sBy c.args).1.n+(iG r c.col).n)));have b:=put l c.table { r with aq:=oV r.aq c.col (zO (kK ((bR sBy c.args).1.n+(iG r c.col).n))) } hf.len hf.af hf.aq Wl
 repeat' first|refine .s1 ?_|(refine .q ?_ ?_<;>intro O)|refine aH i ?_|refine aH a ?_|refine aH e ?_|refine aH f ?_|refine Ke ?_|refine aH g ?_|refine aH wW ?_|refine aH d ?_|refine aH b ?_|fail
 all_goals clear i a e f g wW d b h
 all_goals refine aI rfl ?_
 all_goals unfold G1
 all_goals dsimp only
 all_goals (repeat' split)<;>first|exact qE|exact aG _|(exfalso;simp_all;done)
def gI(l:List AY)(c:BH):List AY×AH×Int:=
 if !uK c.name then (l,bO,1)
 else if c.name==lD then (l,bO,11)
 else if (bR iH c.args).1.kind != 4 then (l,bO,1)
 else if (cN l ⟨c.table,(bR iH c.args).1.s⟩).e != 0 then (l,bO,(cN l ⟨c.table,(bR iH c.args).1.s⟩).e)
 else if c.name==uZ then (sM l c.table (uL c (bR iH c.args).1.s (cN l ⟨c.table,(bR iH c.args).1.s⟩)),jJ (bR iH c.args).1.s,0)
 else if !(cN l ⟨c.table,(bR iH c.args).1.s⟩).is then (l,bO,6)
 else if c.name==vA then (w5 l c.table (bR iH c.args).1.s,jJ (bR iH c.args).1.s,0)
 else G1 l c (cN l ⟨c.table,(bR iH c.args).1.s⟩).row
def SJ(l:List AY)(c:BH)(r:Row)(h:(G1 l c r).2.2≠0):(G1 l c r).1=l:=by
 unfold G1 at h ⊢;dsimp only at h ⊢
 (repeat' split)<;>simp_all
def Lu(l:List AY)(c:BH)(h:(gI l c).2.2≠0):(gI l c).1=l:=by
 have ha:=SJ l c (cN l ⟨c.table,(bR iH c.args).1.s⟩).row;unfold gI at h ⊢
 (repeat' split)<;>simp_all
def G2{B:Nat}{l:List AY}(hf:BM B l)(n:Aa):(cN l n).row.aq.length<=B:=by
 unfold cN;split
 ·simp[qX,qW]
 ·rename_i t ht;split
  ·simp[qX,qW]
  ·rename_i r hr;unfold EQ;split
   ·simp[qW]
   ·exact hf.aq t (List.mem_of_find?_eq_some ht) r (List.mem_of_find?_eq_some hr)
theorem BM.le{B B': Nat}{l:List AY}(hf:BM B l)(h:B<=B'):BM B' l:=⟨le_trans hf.len h,λt ht=>le_trans (hf.af t ht) h,λt ht r hr=>le_trans (hf.aq t ht r hr) h⟩
def aAn(l:List AY)(c:BH)(hb:c.name=lD):CQ prog 122 [Tbls.C l,c.C] (.iface 276 (.agg [])):=by
 refine Kj rfl Xv (wA [.tmp 4, .cell 5 43, .tmp 6] func122 ?_);have hk:=Vp c.name;have e1:uK c.name=true:=Yy
 have a:(c.name==[98,117,114,110])=true:=Yy
 have b:(!uK c.name)=false:=by rw[e1];rfl
 repeat' first|refine dB ?_|refine .s1 ?_|(refine .q ?_ ?_<;>intro O)|refine aH hk ?_|refine Em rfl Wc rfl ?_|refine Tr rfl ?_|fail
 all_goals rfl
def doF(l:List AY)(c:BH)(hb:(c.name==lD)=false){B:Nat}(hf:BM B l)(k:B+c.args.length+1<=1048576):
  AN prog 122 [Tbls.C l,c.C] (.tup [Tbls.C (gI l c).1,(gI l c).2.1.C, .int .i64 (gI l c).2.2]):=by
 refine AQ.plain uM Xv (wA [.tmp 4, .cell 5 43, .tmp 6] func122 ?_);have a:BM 1048576 l:=hf.le om;have hk:=Vp c.name;have i:=get iH c.args om;have b:=aCq l ⟨c.table,(bR iH c.args).1.s⟩ (by have:=hf.len;omega) (λt ht=>by have:=hf.af t ht;omega) a.aq;have h:=G2 hf ⟨c.table,(bR iH c.args).1.s⟩;have f:=aDw l c (bR iH c.args).1.s (cN l ⟨c.table,(bR iH c.args).1.s⟩) a om;have e:=cut l c.table (bR iH c.args).1.s a.len a.af a.aq;have d:=aDx l c (cN l ⟨c.table,(bR iH c.args).1.s⟩).row a om om;have g:=Hv (bR iH c.args).1.s;have j:(c.name==[98,117,114,110])=false:=hb
 repeat' first|refine dB ?_|refine .s1 ?_|(refine .q ?_ ?_<;>intro O)|refine aH hk ?_|refine aH i ?_|refine aH b ?_|refine aH f ?_|refine aH e ?_|refine aH d ?_|refine aH g ?_|fail
 all_goals first|refine aI rfl ?_|trace_state
 all_goals unfold gI
 all_goals (repeat' split)<;>first|exact qE|exact aG _|(exfalso;simp_all[uZ,vA,lD];done)
structure AS where
 name:AF
 at_:Int
def AS.C(a:AS):AV := .agg [.str a.name, .int .i64 a.at_]
abbrev Ac:=List AS
def Ac.C(p:Ac):AV := .slice (p.map AS.C) .no
theorem AS.K(a:AS):a.C.K=true:=rfl
theorem dK(l:List AS):aB (l.map AS.C)=true:=bF AS.K l
theorem AS.fits(a:AS):Av.fits true 2 a.C=true:=rfl
def G3(l:List AS):Av.eQ true 2 (l.map AS.C)=true:=iM AS.fits l
deriving instance DecidableEq for Aa
structure A0 where
 path:Ac
 e:Int
def A0.C(f:A0):AV := .agg [.slice (f.path.map AS.C) .no, .int .i64 f.e]
inductive Nd where
 |mk (kind:Int) (must:Bool) (v:AH) (keys:List AF) (l:List Nd)
structure AT where
 L:List AY
 F:List A0
 R:List (List Aa)
 c:Nat
def AT.ag(st:AT):AT:=⟨st.L,st.F,st.R,st.c+1⟩
def AT.bad(st:AT)(p:Ac)(e:Int):AT:=⟨st.L,st.F++[⟨p,e⟩],st.R,st.c⟩
def jM(n:Aa):List (List Aa)->List (List Aa)
 |[]=>[]
 |[r]=>if n∈r then [r] else [r++[n]]
 |r::q::l=>r::jM n (q::l)
def AT.read(st:AT)(n:Aa):AT:=⟨st.L,st.F,jM n st.R,st.c⟩
def nC(must:Bool):Nd := .mk 3 must bO [] []
def mS(must:Bool)(v:AH):Nd := .mk 0 must v [] []
abbrev Pl:=AF->Row->List Sl->Ac->Bool->AT->Nd×AT
def w9(s:AI)(pl:Pl)(w:List Sl)(t:Ae)(p:Ac)(g:Bt)(st:AT):Nd×AT:=
 if g.e≠0 then (nC (isT t),st.bad p g.e)
 else if g.is=false then (if isT t=true then (nC true,st.bad p 9) else (mS false bO,st))
 else if g.row.av∉jK s t.name then (nC (isT t),st.bad p 7)
 else pl g.row.av g.row w p (isT t) st
mutual
def dL(s:AI)(pl:Pl)(tb:AF)(w:List Sl):AH->Ae->Ac->AT->Nd×AT
 | .mk k n str l m,t,p,st0=>
  let st:=st0.ag
  if k=0 then (if isT t=true then (nC true,st.bad p 9) else (mS false bO,st))
  else if (fZ t).2=true then
   (if k≠6 then (nC (isT t),st.bad p 7)
   else
    let q:=cD s pl tb w l (b7 t) p 0 st
    (.mk 1 (isT t) bO [] q.1,q.2))
  else if fQ s t.name=false then
   (let o:=E3 s t.name (.mk k n str l m)
   if o.2≠0 then (nC (isT t),st.bad p o.2) else (mS (isT t) o.1,st))
  else if k≠4 then (nC (isT t),st.bad p 7)
  else w9 s pl w t p (cN st.L ⟨tb,str⟩) (st.read ⟨tb,str⟩)
def cD(s:AI)(pl:Pl)(tb:AF)(w:List Sl):List AH->Ae->Ac->Nat->AT->List Nd×AT
 |[],_,_,_,st=>([],st)
 |v::l,t,p,i,st=>
  let r:=dL s pl tb w v t (p++[⟨[],i⟩]) st
  let q:=cD s pl tb w l t p (i+1) r.2
  (r.1::q.1,q.2)
end
def sl0:Sl := .mk 0 [] [] [] [] [] []
def oZ(f:Ah)(b:BQ)(args:List AG):BH:=⟨b.bw,b.table,b.col,f.t.name,args⟩
def cA(s:AI)(d:AR)(A:List AG)(pl:Pl)(dox:Bool)(u:AF)(row:Row)(g:AW)(p:Ac)(st0:AT):Nd×AT:=
 let st:=st0.ag
 let x:=g.O.headD sl0
 let f:=(aK s u x.name).1
 if x.name=bC then (mS (isT f.t) (jJ u),st)
 else
  let a:=dV s f.params x.args A
  if a.2≠0 then (nC (isT f.t),st.bad p a.2)
  else
   let b:=(ofB s u f).1
   if b.how=3 then
    (if dox=true then
     (let r:=gI st.L (oZ f b a.1)
     let st1:AT:=⟨r.1,st.F,st.R++[[]],st.c⟩
     if r.2.2≠0 then (nC (isT f.t),st1.bad p r.2.2) else dL s pl b.table (bM g.O) r.2.1 f.t p st1)
    else (nC (isT f.t),st.bad p 14))
   else dL s pl b.table (bM g.O) (if b.how=2 then (bR b.arg a.1).1 else iG row b.col) f.t p st
def bX{α:Type}(fm:α->AT->Nd×AT):List α->AT->List Nd×AT
 |[],st=>([],st)
 |g::l,st=>
  let r:=fm g st
  let q:=bX fm l r.2
  (r.1::q.1,q.2)
def bV(s:AI)(d:AR)(A:List AG):Nat->Bool->Pl
 |0,_=>λ_ _ _ _ must st=>(.mk 2 must bO [] [],⟨st.L,st.F,st.R,st.c+1000000000⟩)
 |n+1,dox=>λu row w p must st=>
  let gs:=bG s d A u w
  let q:=bX (λg st=>cA s d A (bV s d A n false) dox u row g (p++[⟨g.key,0⟩]) st) gs st.ag
  (.mk 2 must bO (gs.map AW.key) q.1,q.2)
def aV(s:AI)(o:Aj):AF:=if o.kind=1 then s.ar else s.query
def cG:Row:=⟨[],[],[],false⟩
mutual
def upM:Nd->AH×Bool
 | .mk k must v keys l=>
  let w:=if k=0 then v else if k=1 then (match upL l with|some vs => .mk 6 0 [] vs []|none=>bO)
   else if k=2 then (match upP keys l with|some ms => .mk 7 0 [] [] ms|none=>bO) else bO
  if w.kind=0/\must=true then (bO,false) else (w,true)
def upL:List Nd->Option (List AH)
 |[]=>some []
 |x::l=>if (upM x).2=true then (upL l).map ((upM x).1 :: ·) else none
def upP:List AF->List Nd->Option (List AG)
 |_,[]=>some []
 |keys,x::l=>if (upM x).2=true then (upP keys.tail l).map (AG.mk (keys.headD []) (upM x).1 :: ·) else none
end
def eF:List (List Aa)->List Aa
 |[]=>[]
 |[r]=>r
 |_::q::l=>eF (q::l)
theorem kG(n:Aa):∀R:List (List Aa),(jM n R).length=R.length
 |[]=>rfl
 |[r]=>by rw[jM];split<;>rfl
 |r::q::l=>by rw[jM,List.length_cons,kG n (q::l)];rfl
theorem uN(n:Aa):∀R:List (List Aa),R≠[]->eF (jM n R)=if n∈eF R then eF R else eF R++[n]
 |[],h=>absurd rfl h
 |[r],_=>by rw[jM,eF];split<;>rfl
 |r::q::l,_=>by
  have E:=uN n (q::l) Wa
  rw[jM]
  have:∀X:List (List Aa),X≠[]->eF (r::X)=eF X:=λX c=>by
   cases X with
   |nil=>exact absurd rfl c
   |cons a b=>rfl
  rw[this _ (by intro e;have:=congrArg List.length e;rw[kG]at this;simp at this),E]
  rfl
structure BT(L:List AY):Prop where
 a7:BM 1048576 L
 bj:∀t∈L,∀r∈t.af,∀m∈r.aq,Ad m.v
structure At(st:AT):Prop where
 F:st.F.length<=st.c
 R0:st.R≠[]
 RL:(eF st.R).length<=st.c
 RN:st.R.length<=1048576
 T:BT st.L
structure BD(st st': AT):Prop where
 ok:At st'
 c:st.c<=st'.c
 L:st'.L=st.L
 R:st'.R.length=st.R.length
theorem BD.trans{a b c:AT}(h:BD a b)(k:BD b c):BD a c:=⟨k.ok,le_trans h.c k.c,k.L.trans h.L,k.R.trans h.R⟩
def OM{a:AT}(h:At a):BD a a:=⟨h,le_refl _,rfl,rfl⟩
theorem At.ag{st:AT}(h:At st):BD st st.ag:=⟨⟨Nat.le_succ_of_le h.F,h.R0,Nat.le_succ_of_le h.RL,h.RN,h.T⟩,Nat.le_succ _,rfl,rfl⟩
def At.b5{st:AT}(h:At st)(p:Ac)(e:Int):BD st (st.ag.bad p e):=⟨⟨by
 show (st.F++[_]).length<=st.c+1
 rw[List.length_append]
 exact Nat.succ_le_succ h.F,h.R0,Nat.le_succ_of_le h.RL,h.RN,h.T⟩,Nat.le_succ _,rfl,rfl⟩
def At.b7{st:AT}(h:At st)(n:Aa):BD st (st.ag.read n):=⟨⟨Nat.le_succ_of_le h.F,by
 intro e
 have:=congrArg List.length e
 show False
 have h2:(jM n st.R).length=0:=this
 rw[kG]at h2
 exact h.R0 (List.eq_nil_of_length_eq_zero h2),by
 show (eF (jM n st.R)).length<=st.c+1
 rw[uN n st.R h.R0]
 have:=h.RL
 split
 ·omega
 ·rw[List.length_append];simp only[List.length_cons,length_nil];omega,by
 show (jM n st.R).length<=_
 rw[kG];exact h.RN,h.T⟩,Nat.le_succ _,rfl,kG n st.R⟩
def At.ci{st:AT}(h:At st)(n:Aa)(p:Ac)(e:Int):BD st ((st.ag.read n).bad p e):=by
 have k:=h.b7 n;exact⟨⟨by show (st.F++[_]).length<=st.c+1;rw[List.length_append];exact Nat.succ_le_succ h.F,k.ok.R0,k.ok.RL,k.ok.RN,k.ok.T⟩,k.c,k.L,k.R⟩
def Aw(pl:Pl):Prop:=∀u row w p m st,At st->BD st (pl u row w p m st).2
mutual
theorem nY(s:AI)(pl:Pl)(hpl:Aw pl)(tb:AF)(w:List Sl):∀(v:AH) (t:Ae) (p:Ac) (st:AT),At st->BD st (dL s pl tb w v t p st).2
 | .mk k n str l m,t,p,st,h=>by
  rw[dL]
  dsimp only
  split
  ·split
   ·exact h.b5 p 9
   ·exact h.ag
  split
  ·split
   ·exact h.b5 p 7
   ·exact h.ag.trans (sN s pl hpl tb w l (b7 t) p 0 st.ag h.ag.ok)
  split
  ·split
   ·exact h.b5 p _
   ·exact h.ag
  split
  ·exact h.b5 p 7
  unfold w9
  split
  ·exact h.ci _ p _
  split
  ·split
   ·exact h.ci _ p 9
   ·exact h.b7 _
  split
  ·exact h.ci _ p 7
  ·exact(h.b7 _).trans (hpl _ _ _ _ _ _ (h.b7 _).ok)
theorem sN(s:AI)(pl:Pl)(hpl:Aw pl)(tb:AF)(w:List Sl):∀(l:List AH) (t:Ae) (p:Ac) (i:Nat) (st:AT),At st->BD st (cD s pl tb w l t p i st).2
 |[],_,_,_,st,h=>by rw[cD];exact OM h
 |v::l,t,p,i,st,h=>by
  rw[cD]
  have h1:=nY s pl hpl tb w v t (p++[⟨[],i⟩]) st h
  exact h1.trans (sN s pl hpl tb w l t p (i+1) _ h1.ok)
end
def lN(s:AI)(d:AR)(A:List AG)(pl:Pl)(hpl:Aw pl)(u:AF)(row:Row)(g:AW)(p:Ac)(st:AT)(h:At st):BD st (cA s d A pl false u row g p st).2:=by
 unfold cA;dsimp only;split
 ·exact h.ag
 split
 ·exact h.b5 p _
 split
 ·exact h.b5 p 14
 ·exact h.ag.trans (nY s pl hpl _ _ _ _ _ _ h.ag.ok)
def xA{α:Type}(a:α->AT->Nd×AT)(hf:∀g st,At st->BD st (a g st).2):∀(l:List α) (st:AT),At st->BD st (bX a l st).2
 |[],st,h=>OM h
 |g::l,st,h=>(hf g st h).trans (xA a hf l _ (hf g st h).ok)
def nZ(s:AI)(d:AR)(A:List AG):∀n:Nat,Aw (bV s d A n false)
 |0=>λu row w p m st h=>⟨⟨le_trans h.F (Nat.le_add_right _ _),h.R0,le_trans h.RL (Nat.le_add_right _ _),h.RN,h.T⟩,Nat.le_add_right _ _,rfl,rfl⟩
 |n+1=>λu row w p m st h=>by
  rw[bV]
  exact h.ag.trans (xA _ (λg st h=>lN s d A _ (nZ s d A n) u row g _ st h) _ _ h.ag.ok)
structure BG where
 L:List AY
 n:Nat
abbrev BO:=AF->Row->List Sl->BG->BG
mutual
def oJ(s:AI)(pl:BO)(tb:AF)(w:List Sl):AH->Ae->BG->BG
 | .mk k n str l m,t,st=>
  if 400<st.n+1 then ⟨st.L,st.n+1⟩
  else if (fZ t).2=true then lQ s pl tb w l (b7 t) ⟨st.L,st.n+1⟩
  else if k≠4\/fQ s t.name=false then ⟨st.L,st.n+1⟩
  else
   let g:=cN st.L ⟨tb,str⟩
   if g.is=true/\g.row.av∈jK s t.name then pl g.row.av g.row w ⟨st.L,st.n+1⟩ else ⟨st.L,st.n+1⟩
def lQ(s:AI)(pl:BO)(tb:AF)(w:List Sl):List AH->Ae->BG->BG
 |[],_,st=>st
 |v::l,t,st=>lQ s pl tb w l t (oJ s pl tb w v t st)
end
def lE(s:AI)(A:List AG)(pl:BO)(u:AF)(row:Row)(st:BG)(g:AW):BG:=
 let x:=g.O.headD sl0
 let f:=(aK s u x.name).1
 let b:=(ofB s u f).1
 let a:=dV s f.params x.args A
 if a.2≠0\/400<st.n+1 then ⟨st.L,st.n+1⟩
 else if b.how=3 then
  (let r:=gI st.L (oZ f b a.1)
  oJ s pl b.table (bM g.O) r.2.1 f.t ⟨r.1,st.n+1⟩)
 else oJ s pl b.table (bM g.O) (if b.how=2 then (bR b.arg a.1).1 else iG row b.col) f.t ⟨st.L,st.n+1⟩
def oW(s:AI)(d:AR)(A:List AG):Nat->BO
 |0=>λ_ _ _ st=>st
 |N+1=>λu row w st=>if 400<st.n then st else (bG s d A u w).foldl (lE s A (oW s d A N) u row) ⟨st.L,st.n+1⟩
def BN(pl:BO):Prop:=∀u row w st,st.n<=(pl u row w st).n
mutual
theorem yD(s:AI)(pl:BO)(hp:BN pl)(tb:AF)(w:List Sl):∀(v:AH) (t:Ae) (st:BG),st.n+1<=(oJ s pl tb w v t st).n
 | .mk k n str l m,t,st=>by
  rw[oJ];split
  ·simp_all
  split
  ·exact Fh s pl hp tb w l (b7 t) ⟨st.L,st.n+1⟩
  split
  ·simp_all
  dsimp only;split
  ·exact hp _ _ _ ⟨st.L,st.n+1⟩
  ·simp_all
theorem Fh(s:AI)(pl:BO)(hp:BN pl)(tb:AF)(w:List Sl):∀(l:List AH) (t:Ae) (st:BG),st.n<=(lQ s pl tb w l t st).n
 |[],t,st=>by rw[lQ];exact le_refl _
 |v::l,t,st=>by rw[lQ];have h1:=yD s pl hp tb w v t st;have h2:=Fh s pl hp tb w l t (oJ s pl tb w v t st);omega
end
def uO(s:AI)(A:List AG)(pl:BO)(hp:BN pl)(u:AF)(row:Row)(st:BG)(g:AW):st.n+1<=(lE s A pl u row st g).n:=by
 have b:∀tb w v t (a:BG),a.n=st.n+1->st.n+1<=(oJ s pl tb w v t a).n:=λtb w v t a h=>by have:=yD s pl hp tb w v t a;omega
 unfold lE;grind
def Fi(s:AI)(A:List AG)(pl:BO)(hp:BN pl)(u:AF)(row:Row):∀(a:List AW) (st:BG),st.n+a.length<=(a.foldl (lE s A pl u row) st).n
 |[],st=>le_refl _
 |g::a,st=>by have h1:=uO s A pl hp u row st g;have h2:=Fi s A pl hp u row a (lE s A pl u row st g);grind
def rA(s:AI)(d:AR)(A:List AG):∀N:Nat,BN (oW s d A N)
 |0=>λ_ _ _ _=>le_refl _
 |N+1=>λu row w st=>by
  rw[oW];dsimp only;split
  ·omega
  ·have:=Fi s A _ (rA s d A N) u row (bG s d A u w) ⟨st.L,st.n+1⟩;grind
def DX(s:AI)(u:AF):Prop:=fJ s u [1]=true/\(s.ar=[]\/u≠s.ar)
def Ap(s:AI)(n:AF):Prop:=∀x∈jK s n,DX s x
def A2(s:AI):Prop:=∀u,DX s u->∀name,Ap s (aK s u name).1.t.name/\(ofB s u (aK s u name).1).1.how≠3
def BB(s:AI)(pc:BO):Prop:=∀u row w ct,DX s u->(pc u row w ct).L=ct.L
mutual
theorem uP(s:AI)(pc:BO)(hp:BB s pc)(tb:AF)(w:List Sl):∀(v:AH) (t:Ae) (a:BG),Ap s t.name->(oJ s pc tb w v t a).L=a.L
 | .mk k n str l m,t,a,hr=>by
  rw[oJ];split
  ·rfl
  split
  ·rename_i c;exact Ng s pc hp tb w l (b7 t) ⟨a.L,a.n+1⟩ hr
  split
  ·rfl
  dsimp only;split
  ·rename_i c;exact hp _ _ _ ⟨a.L,a.n+1⟩ (hr _ c.2)
  ·rfl
theorem Ng(s:AI)(pc:BO)(hp:BB s pc)(tb:AF)(w:List Sl):∀(l:List AH) (t:Ae) (a:BG),Ap s t.name->(lQ s pc tb w l t a).L=a.L
 |[],t,a,_=>by rw[lQ]
 |v::l,t,a,hr=>by rw[lQ,Ng s pc hp tb w l t _ hr,uP s pc hp tb w v t a hr]
end
theorem SK(s:AI)(hs:A2 s)(A:List AG)(pc:BO)(hp:BB s pc)(u:AF)(row:Row)(ht:DX s u)(a:BG)(g:AW):(lE s A pc u row a g).L=a.L:=by
 unfold lE;dsimp only;obtain⟨h1,h2⟩:=hs u ht (g.O.headD sl0).name;split
 ·rfl
 exact uP s pc hp _ _ _ _ ⟨a.L,a.n+1⟩ h1
theorem SL(s:AI)(hs:A2 s)(A:List AG)(pc:BO)(hp:BB s pc)(u:AF)(row:Row)(ht:DX s u):∀(b:List AW) (a:BG),(b.foldl (lE s A pc u row) a).L=a.L
 |[],a=>rfl
 |g::b,a=>by rw[List.foldl_cons,SL s hs A pc hp u row ht b,SK s hs A pc hp u row ht a g]
def JU(s:AI)(hs:A2 s)(d:AR)(A:List AG):∀N:Nat,BB s (oW s d A N)
 |0=>λ_ _ _ _ _=>rfl
 |N+1=>λu row w a ht=>by
  rw[oW];dsimp only;split
  ·rfl
  ·exact SL s hs A _ (JU s hs d A N) u row ht _ ⟨a.L,a.n+1⟩
def Bk(s:AI)(N:Nat)(pl:Pl)(pc:BO):Prop:=∀u row w p m st ct,DX s u->st.L=ct.L->401<=N+ct.n->(pc u row w ct).n<=400->(pl u row w p m st).2.c+ct.n<=st.c+(pc u row w ct).n
def CI(pl:Pl):Prop:=∀u row w p m st,(pl u row w p m st).2.L=st.L
mutual
theorem xB(s:AI)(pl:Pl)(hpl:CI pl)(tb:AF)(w:List Sl):∀(v:AH) (t:Ae) (p:Ac) (st:AT),(dL s pl tb w v t p st).2.L=st.L
 | .mk k n str l m,t,p,st=>by
  rw[dL];dsimp only;split
  ·split<;>rfl
  split
  ·split
   ·rfl
   ·exact Lv s pl hpl tb w l (b7 t) p 0 st.ag
  split
  ·split<;>rfl
  split
  ·rfl
  unfold w9;split
  ·rfl
  split
  ·split<;>rfl
  split
  ·rfl
  ·exact hpl _ _ _ _ _ _
theorem Lv(s:AI)(pl:Pl)(hpl:CI pl)(tb:AF)(w:List Sl):∀(l:List AH) (t:Ae) (p:Ac) (i:Nat) (st:AT),(cD s pl tb w l t p i st).2.L=st.L
 |[],_,_,_,st=>by rw[cD]
 |v::l,t,p,i,st=>by rw[cD];rw[Lv s pl hpl tb w l t p (i+1),xB s pl hpl tb w v t]
end
theorem Lw(s:AI)(d:AR)(A:List AG)(pl:Pl)(hpl:CI pl)(u:AF)(row:Row)(g:AW)(p:Ac)(st:AT):(cA s d A pl false u row g p st).2.L=st.L:=by
 unfold cA;dsimp only;split
 ·rfl
 split
 ·rfl
 split
 ·rfl
 ·exact xB s pl hpl _ _ _ _ _ st.ag
theorem ON{α:Type}(a:α->AT->Nd×AT)(hf:∀g st,(a g st).2.L=st.L):∀(l:List α) (st:AT),(bX a l st).2.L=st.L
 |[],st=>rfl
 |g::l,st=>by rw[bX];rw[ON a hf l,hf]
def G4(s:AI)(d:AR)(A:List AG):∀n:Nat,CI (bV s d A n false)
 |0=>λ_ _ _ _ _ _=>rfl
 |n+1=>λu row w p m st=>ON _ (λg st=>Lw s d A _ (G4 s d A n) u row g _ st) _ st.ag
mutual
theorem Dl(s:AI)(N:Nat)(pl:Pl)(pc:BO)(hup:BN pc)(hsame:BB s pc)(hL0:CI pl)(hpl:Bk s N pl pc)(tb:AF)(w:List Sl):∀(v:AH) (t:Ae) (p:Ac) (st:AT) (b:BG),Ap s t.name->st.L=b.L->401<=N+b.n->(oJ s pc tb w v t b).n<=400->
  (dL s pl tb w v t p st).2.c+b.n<=st.c+(oJ s pc tb w v t b).n
 | .mk k n str l m,t,p,st,b,hr,o,hM,O=>by
  have hu:=yD s pc hup tb w (.mk k n str l m) t b;have a:∀x:AT,x.c=st.c+1->x.c+b.n<=st.c+(oJ s pc tb w (.mk k n str l m) t b).n:=λx Y=>om
  rw[dL];dsimp only;by_cases q:k=0
  ·rw[if_pos q];split
   ·exact a _ rfl
   ·exact a _ rfl
  rw[if_neg q];rw[oJ]at O a ⊢;have r:¬ 400<b.n+1:=λc=>by rw[if_pos c]at O;dsimp only at O;omega
  rw[if_neg r]at O a ⊢;by_cases f:(fZ t).2=true
  ·rw[if_pos f]at O a ⊢;split
   ·exact a _ rfl
   ·have:=Lx s N pl pc hup hsame hL0 hpl tb w l (b7 t) p 0 st.ag ⟨b.L,b.n+1⟩ hr o Wl O;have e:st.ag.c=st.c+1:=rfl;grind
  rw[if_neg f]at O a ⊢;rw[if_neg f];by_cases i:fQ s t.name=false
  ·rw[if_pos i];split
   ·exact a _ rfl
   ·exact a _ rfl
  rw[if_neg i];by_cases j:k≠4
  ·rw[if_pos j];exact a _ rfl
  rw[if_neg j];rw[if_neg (show ¬(k≠4\/fQ s t.name=false) from λh=>h.elim j i)]at O a ⊢;dsimp only at O a ⊢;have z:st.ag.L=b.L:=o;rw[z];unfold w9;generalize cN b.L ⟨tb,str⟩=g at *;split
  ·exact a _ rfl
  split
  ·split
   ·exact a _ rfl
   ·exact a _ rfl
  rename_i u;split
  ·exact a _ rfl
  rename_i y;have d:g.row.av∈jK s t.name:=Decidable.not_not.1 y;rw[if_pos ⟨by simpa using u,d⟩]at O ⊢;have:=hpl g.row.av g.row w p (isT t) (st.ag.read ⟨tb,str⟩) ⟨b.L,b.n+1⟩ (hr _ d) o Wl O;have e:(st.ag.read ⟨tb,str⟩).c=st.c+1:=rfl;dsimp only at this;omega
theorem Lx(s:AI)(N:Nat)(pl:Pl)(pc:BO)(hup:BN pc)(hsame:BB s pc)(hL0:CI pl)(hpl:Bk s N pl pc)(tb:AF)(w:List Sl):∀(l:List AH) (t:Ae) (p:Ac) (i:Nat) (st:AT) (a:BG),Ap s t.name->st.L=a.L->401<=N+a.n->(lQ s pc tb w l t a).n<=400->
  (cD s pl tb w l t p i st).2.c+a.n<=st.c+(lQ s pc tb w l t a).n
 |[],t,p,i,st,a,hr,b,d,O=>by rw[cD,lQ];exact le_refl _
 |v::l,t,p,i,st,a,hr,b,d,O=>by
  rw[lQ]at O ⊢;rw[cD];dsimp only;have e:=yD s pc hup tb w v t a;have f:=Fh s pc hup tb w l t (oJ s pc tb w v t a);have h1:=Dl s N pl pc hup hsame hL0 hpl tb w v t (p++[⟨[],i⟩]) st a hr b d om;have e1:(dL s pl tb w v t (p++[⟨[],i⟩]) st).2.L=(oJ s pc tb w v t a).L:=by rw[xB s pl hL0,uP s pc hsame tb w v t a hr];exact b
  have h2:=Lx s N pl pc hup hsame hL0 hpl tb w l t p (i+1) _ _ hr e1 om O;omega
end
def SM(s:AI)(hs:A2 s)(d:AR)(A:List AG)(N:Nat)(pl:Pl)(pc:BO)(hup:BN pc)(hsame:BB s pc)(hL0:CI pl)(hpl:Bk s N pl pc)(u:AF)(row:Row)(ht:DX s u)(g:AW)(p:Ac)(st:AT)(a:BG)(k:st.L=a.L)(l:401<=N+a.n)
  (O:(lE s A pc u row a g).n<=400):(cA s d A pl false u row g p st).2.c+a.n<=st.c+(lE s A pc u row a g).n:=by
 have m:=uO s A pc hup u row a g;have b:∀x:AT,x.c=st.c+1->x.c+a.n<=st.c+(lE s A pc u row a g).n:=λx Y=>om
 obtain⟨h1,h2⟩:=hs u ht (g.O.headD sl0).name;unfold cA;dsimp only;split
 ·exact b _ rfl
 split
 ·exact b _ rfl
 rename_i j;unfold lE at O b ⊢;have i:¬ 400<a.n+1:=λc=>YP
 have f:¬((dV s (aK s u (g.O.headD sl0).name).1.params (g.O.headD sl0).args A).2≠0\/400<a.n+1):=λh=>h.elim j i
 rw[if_neg f,if_neg h2]at O;rw[if_neg f,if_neg h2];have:=Dl s N pl pc hup hsame hL0 hpl _ _ _ _ p st.ag ⟨a.L,a.n+1⟩ h1 k Wl O;have e:st.ag.c=st.c+1:=rfl;grind
def Ly(s:AI)(hs:A2 s)(d:AR)(A:List AG)(N:Nat)(pl:Pl)(pc:BO)(hup:BN pc)(hsame:BB s pc)(hL0:CI pl)(hpl:Bk s N pl pc)(u:AF)(row:Row)(ht:DX s u)(e:AW->Ac):∀(b:List AW) (st:AT) (a:BG),st.L=a.L->401<=N+a.n->
  (b.foldl (lE s A pc u row) a).n<=400->(bX (λg st=>cA s d A pl false u row g (e g) st) b st).2.c+a.n<=st.c+(b.foldl (lE s A pc u row) a).n
 |[],st,a,_,_,_=>le_refl _
 |g::b,st,a,f,h,O=>by rw[List.foldl_cons]at O ⊢;rw[bX];dsimp only;have i:=uO s A pc hup u row a g;have j:=Fi s A pc hup u row b (lE s A pc u row a g);have h1:=SM s hs d A N pl pc hup hsame hL0 hpl u row ht g (e g) st a f h om;have h2:=Ly s hs d A N pl pc hup hsame hL0 hpl u row ht e b (cA s d A pl false u row g (e g) st).2 (lE s A pc u row a g) (by rw[Lw s d A pl hL0,SK s hs A pc hsame u row ht];exact f) om O;omega
def G5(s:AI)(hs:A2 s)(d:AR)(A:List AG):∀N:Nat,Bk s N (bV s d A N false) (oW s d A N)
 |0=>λu row w p m st a ht b f O=>by have:(oW s d A 0 u row w a).n=a.n:=rfl;omega
 |N+1=>λu row w p m st a ht b f O=>by
  have e:(bV s d A (N+1) false u row w p m st).2=(bX (λg st=>cA s d A (bV s d A N false) false u row g (p++[⟨g.key,0⟩]) st) (bG s d A u w) st.ag).2:=rfl;rw[e];rw[oW]at O ⊢;dsimp only at O ⊢;split at O
  ·omega
  rename_i c;rw[if_neg c];have:=Ly s hs d A N _ _ (rA s d A N) (JU s hs d A N) (G4 s d A N) (G5 s hs d A N) u row ht (λg=>p++[⟨g.key,0⟩]) (bG s d A u w) st.ag ⟨a.L,a.n+1⟩ b Wl O;have e:st.ag.c=st.c+1:=rfl;grind
def zZ{s:AI}{k:Int}(h:fJ s n [k]=true):∃d,dQ s n=some d/\d.kind=k:=by
 unfold fJ bN at h;cases e:dQ s n with
 |none=>rw[e]at h;simp at h
 |some d=>rw[e]at h;exact⟨d,rfl,Wp⟩
def G6{s:AI}{d:Ag}(h:dQ s n=some d):fJ s n [d.kind]=true:=by unfold fJ bN;rw[h];simp
structure A5(s:AI):Prop where
 df:∀e∈s.ah,dQ s e.name=some e
 nil:dQ s []=none
 roots:wX s=true
 cq:∀d∈s.ah,d.kind=1->∀f∈d.fields,(ofB s d.name f).2=true
def G7{s:AI}(h:A5 s){x:AF}(Y:x∈jK s n):fJ s x [1]=true:=by
 obtain⟨d,a,h1|h1|h1⟩:=GT.1 Y
 ·have:=G6 a;rw[h1.1]at this;rw[h1.2];exact this
 ·obtain⟨_,e,he,b,_,rfl⟩:=h1;have:=G6 (h.df _ he)
  rwa [b]at this
 ·exact h1.2.2
def JV{s:AI}(h:dQ s n=none):Ap s n:=λx Y=>by
 obtain⟨d,a,_⟩:=GT.1 Y
 rw[h]at a;cases a
def yE{s:AI}(h:eC s n=true):Ap s n:=λx Y=>by
 obtain⟨d,a,h1⟩:=GT.1 Y
 exfalso
 unfold eC fJ bN at h
 rw[a]at h
 simp only[Bool.true_and,decide_eq_true_eq,List.mem_cons,List.mem_nil_iff,or_false]at h
 omega
def oK{s:AI}(h:A5 s):A2 s:=by
 have v:=h.cq;intro u ht name;obtain⟨d,hf,hk⟩:=zZ ht.1;obtain⟨w,j⟩:=zU hf om;have g:∀f:Ah,f.name=bC->(ofB s u f).1.how≠3:=λf e=>by unfold ofB;rw[if_neg (λc=>c.2.1 e)];decide
 have hz:(ofB s u qB).1.how≠3:=by
  unfold ofB;split
  ·decide
  ·decide
 unfold aK;cases e:iW s u name with
 |none=>exact⟨JV h.nil,hz⟩
 |some f=>
  dsimp only;unfold iW at e;split at e
  ·rename_i c;cases e;refine⟨yE ?_,g _ c.1⟩;unfold eC fJ bN dQ;rw[if_pos (show kN cW=true by decide)];rfl
  ·split at e
   case isFalse=>cases e
   have k:(bN s u).1=d:=by unfold bN;rw[hf]
   rw[k]at e;have l:f∈d.fields:=List.mem_of_find?_eq_some e;have m:=v d w hk f l;rw[j]at m;have i:f9 s u=false:=by
    unfold f9;rcases ht.2 with q|q
    ·simp[q]
    ·simp[q]
   obtain⟨n,r,z⟩:=GW m;have b:(ofB s u f).1.how≠3:=λc=>by rw[i,c]at n;simp at n
   refine⟨?_,b⟩;obtain⟨o,p,a⟩:=Ff m;obtain⟨t,_,_⟩:=GV o;rw[<-p]at t;by_cases h0:(ofB s u f).1.how=0
   ·exact yE (r h0)
   ·unfold DW at a;rw[if_neg h0,if_neg b]at a;unfold m9 at a;simp only[and_eq_true,Bool.not_eq_true', bne_iff_ne,ne_eq,Bool.and_eq_false_iff,decide_eq_false_iff_not]at a;intro x Y;refine⟨G7 h Y, ?_⟩;rcases a.1.2 with q|q
    ·left;simpa using q
    ·right;intro y;exact q (y▸Y)
def yF{s:AI}(h:A5 s):DX s s.query:=by
 have h2:=h.roots;unfold wX at h2;simp only[and_eq_true,Bool.or_eq_true,beq_iff_eq,bne_iff_ne,ne_eq]at h2;refine⟨h2.1, ?_⟩;rcases h2.2 with q|q
 ·exact .inl q
 ·exact .inr λe=>q.1 e.symm
def OO{s:AI}(h:A5 s)(a:s.ar≠[]):fJ s s.ar [1]=true:=by
 have h2:=h.roots;unfold wX at h2;simp only[and_eq_true,Bool.or_eq_true,beq_iff_eq,bne_iff_ne,ne_eq]at h2;rcases h2.2 with q|q
 ·exact absurd q a
 ·exact q.2
structure Be(s:AI)(u:AF):Prop where
 calm:∀name,Ap s (aK s u name).1.t.name
 tn:(ofB s u (aK s u bC).1).1.how≠3
section
variable (s:AI) (d:AR) (A:List AG) (N:Nat) (pl:Pl) (pc:BO) (hup:BN pc) (hsame:BB s pc) (hL0:CI pl) (hpl:Bk s N pl pc) (u:AF) (row:Row) (ht:Be s u)
include hup hsame hL0 hpl ht
theorem SN(g:AW)(p:Ac)(st:AT)(a:BG)(f:st.L=a.L)(w:401<=N+a.n)(O:(lE s A pc u row a g).n<=400):
  (cA s d A pl true u row g p st).2.c+a.n<=st.c+(lE s A pc u row a g).n/\(cA s d A pl true u row g p st).2.L=(lE s A pc u row a g).L:=by
 have y:=uO s A pc hup u row a g;have b:∀x:AT,x.c=st.c+1->x.c+a.n<=st.c+(lE s A pc u row a g).n:=λx Y=>om
 have h1:=ht.calm (g.O.headD sl0).name;unfold cA;dsimp only;by_cases k:(g.O.headD sl0).name=bC
 ·rw[if_pos k];refine⟨b _ rfl, ?_⟩;unfold lE;dsimp only;have:=ht.tn;rw[<-k]at this;split
  ·exact f
  rw[uP s pc hsame _ _ _ _ ⟨a.L,a.n+1⟩ h1];exact f
 rw[if_neg k];by_cases j:(dV s (aK s u (g.O.headD sl0).name).1.params (g.O.headD sl0).args A).2≠0
 ·rw[if_pos j];refine⟨b _ rfl, ?_⟩;unfold lE;dsimp only;rw[if_pos (.inl j)];exact f
 rw[if_neg j];unfold lE at O b ⊢;dsimp only at O b ⊢;have o:¬ 400<a.n+1:=λc=>YP
 have q:¬((dV s (aK s u (g.O.headD sl0).name).1.params (g.O.headD sl0).args A).2≠0\/400<a.n+1):=λh=>h.elim j o
 rw[if_neg q]at O b ⊢;have e:st.ag.c=st.c+1:=rfl;have v:st.ag.L=a.L:=f;by_cases i:(ofB s u (aK s u (g.O.headD sl0).name).1).1.how=3
 ·rw[if_pos i]at O b ⊢;rw[if_pos i,if_pos rfl,v];generalize gI a.L _=r at *
  have m:=uP s pc hsame (ofB s u (aK s u (g.O.headD sl0).name).1).1.table (bM g.O) r.2.1 (aK s u (g.O.headD sl0).name).1.t ⟨r.1,a.n+1⟩ h1;by_cases l:r.2.2≠0
  ·rw[if_pos l];exact⟨b _ rfl,m.symm⟩
  ·rw[if_neg l];have:=Dl s N pl pc hup hsame hL0 hpl _ _ _ _ p ⟨r.1,st.ag.F,st.ag.R++[[]],st.ag.c⟩ ⟨r.1,a.n+1⟩ h1 rfl Wl O;dsimp only at this;refine⟨om, ?_⟩;rw[xB s pl hL0,m]
 ·rw[if_neg i]at O b ⊢;rw[if_neg i];have:=Dl s N pl pc hup hsame hL0 hpl _ _ _ _ p st.ag ⟨a.L,a.n+1⟩ h1 f Wl O;dsimp only at this;refine⟨om, ?_⟩;rw[xB s pl hL0,uP s pc hsame _ _ _ _ ⟨a.L,a.n+1⟩ h1];exact f
theorem IE(e:AW->Ac):∀(b:List AW) (st:AT) (a:BG),st.L=a.L->401<=N+a.n->
  (b.foldl (lE s A pc u row) a).n<=400->(bX (λg st=>cA s d A pl true u row g (e g) st) b st).2.c+a.n<=st.c+(b.foldl (lE s A pc u row) a).n
 |[],st,a,_,_,_=>le_refl _
 |g::b,st,a,f,h,O=>by
  rw[List.foldl_cons]at O ⊢
  rw[bX]
  dsimp only
  have i:=uO s A pc hup u row a g
  have j:=Fi s A pc hup u row b (lE s A pc u row a g)
  obtain⟨h1,h3⟩:=SN s d A N pl pc hup hsame hL0 hpl u row ht g (e g) st a f h om
  have h2:=IE e b (cA s d A pl true u row g (e g) st).2 (lE s A pc u row a g) h3 om O
  omega
end
def Lz(s:AI)(hs:A2 s)(d:AR)(A:List AG)(N:Nat)(u:AF)(row:Row)(w:List Sl)(p:Ac)(m:Bool)(st:AT)(a:BG)(ht:Be s u)(b:st.L=a.L)(f:401<=N+1+a.n)(O:(oW s d A (N+1) u row w a).n<=400):
  (bV s d A (N+1) true u row w p m st).2.c+a.n<=st.c+(oW s d A (N+1) u row w a).n:=by
 have e:(bV s d A (N+1) true u row w p m st).2=(bX (λg st=>cA s d A (bV s d A N false) true u row g (p++[⟨g.key,0⟩]) st) (bG s d A u w) st.ag).2:=rfl;rw[e];rw[oW]at O ⊢;dsimp only at O ⊢;split at O
 ·omega
 rename_i c;rw[if_neg c];have:=IE s d A N _ _ (rA s d A N) (JU s hs d A N) (G4 s d A N) (G5 s hs d A N) u row ht (λg=>p++[⟨g.key,0⟩]) (bG s d A u w) st.ag ⟨a.L,a.n+1⟩ b Wl O;have e:st.ag.c=st.c+1:=rfl;dsimp only at this;omega
def Qe{s:AI}(hn:A5 s)(h:m9 s n=true):Ap s n:=λx Y=>by
 unfold m9 at h
 simp only[and_eq_true,Bool.not_eq_true', bne_iff_ne,ne_eq,Bool.and_eq_false_iff,decide_eq_false_iff_not]at h
 refine⟨G7 hn Y, ?_⟩
 rcases h.2 with q|q
 ·left;simpa using q
 ·right;intro a;exact q (a▸Y)
def JW{s:AI}(h:A5 s)(a:s.ar≠[]):Be s s.ar/\∀name,name≠bC->(ofB s s.ar (aK s s.ar name).1).1.how≠3->(aK s s.ar name).1=qB:=by
 have p:=h.cq;obtain⟨d,hf,hk⟩:=zZ (OO h a);obtain⟨r,j⟩:=zU hf om;have b:∀name,Ap s (aK s s.ar name).1.t.name/\(name≠bC->(ofB s s.ar (aK s s.ar name).1).1.how≠3->(aK s s.ar name).1=qB):=λname=>by
  unfold aK;cases e:iW s s.ar name with
  |none=>exact⟨JV h.nil,λ_ _=>rfl⟩
  |some f=>
   dsimp only;unfold iW at e;split at e
   ·rename_i c;cases e;refine⟨yE ?_,λq=>absurd c.1 q⟩;unfold eC fJ bN dQ;rw[if_pos (show kN cW=true by decide)];rfl
   ·split at e
    case isFalse=>cases e
    have k:(bN s s.ar).1=d:=by unfold bN;rw[hf]
    rw[k]at e;have l:f∈d.fields:=List.mem_of_find?_eq_some e;have n:=p d r hk f l;rw[j]at n;have i:f9 s s.ar=true:=by unfold f9;simp[a]
    obtain⟨o,w,x⟩:=GW n;have h3:(ofB s s.ar f).1.how=3:=by rw[i]at o;simpa using o
    obtain⟨u,v,g⟩:=Ff n;refine⟨?_,λ_ q=>absurd h3 q⟩;unfold DW at g;rw[if_neg om,if_pos h3]at g;simp only[and_eq_true,Bool.or_eq_true]at g;rcases g.2.1 with q|q
    ·exact yE q
    ·exact Qe h q
 refine⟨⟨λname=>(b name).1, ?_⟩,λname=>(b name).2⟩;have m:(aK s s.ar bC).1.name=bC\/(aK s s.ar bC).1=qB:=by
  unfold aK;cases e:iW s s.ar bC with
  |none=>exact .inr rfl
  |some f=>
   left;unfold iW at e;split at e
   ·cases e;rfl
   ·split at e
    ·simpa using List.find?_some e
    ·cases e
 rcases m with q|q
 ·unfold ofB;rw[if_neg (λc=>c.2.1 q)];decide
 ·rw[q];unfold ofB;split
  ·decide
  ·decide
end Go.Proofs.YtdodieljpcfpcaaGreatDoor
namespace Go.Av
open Go
section
variable [AK]
variable {P:Program} [Lay P] {A:Array Oper} {G:Bool} {K:AX->AE->St->Prop} {C:List Oper} {I:List Ak} {s:AE} {H:St}
variable {d:Tmp} {R:TypeId} {D:String} {S:Array Edge}
end
section
variable [AK]
variable {P:Program} {A:Array Oper} {G:Bool} {K:AX->AE->St->Prop} {C:List Oper} {I:List Ak} {s:AE} {H:St} {R:TypeId} {D:String} {S:Array Edge}
def dR{d:Option Tmp}{f:FuncId}{v:AV}(hp:AQ P f vals0 H (λe σ'=> e = .ret v/\σ'= b))(k:AD P A G K C (.all::I) (iJ d v s) b)(ha:j7 s args.toList some=some J:=by exact rfl)(hw:AA J vals0:=by exact aD _):AD P A G K (⟨d, .call ⟨.value (.func f),args,p⟩,R,D,S,none⟩::C) I s H:=
 bT (t := .all) (σ':= b) rfl (by
  intro g w a next Q j l hn
  have h:args.toList.map (ev s)=J:=Option.some.inj (g6 _ _ _ ha)
  have hl:=jF (g:=g) (w:=w) (s:=s) (a:=a) args.toList (λx Y=>l x Wn)
  rw[h]at hl
  have c:AL g w vals0 (args.map a.eval).toList:=by
   rw[Array.toList_map]
   exact hw _ _ _ hl
  unfold Oper.wp
  rw[kD hp.1 a w]
  show Calls P f (args.map a.eval) w _
  refine(hp.2 _ w _ j c).mono ?_
  rintro e w' ⟨i,σ', x,h1,h2,h3,rfl,rfl⟩
  obtain⟨u,rfl,m⟩:=h3
  exact hn u w' i h1 h2 m) k
def lF{H:St}{k:Nat}{t:Tk}(ht:t.fresh=true)(hk:dM H.T=some k)(hT': kU H.T (.len 0) some=some T'):AJ H (.slice [] t) ⟨H.B,T'⟩ (.slice [] (.own k z)):=λg w v X hr=>by
 obtain⟨g', e1,b,a⟩:=rO (agg:=true) (z:=z) ht rfl X hr
 rw[dG hk]at a
 refine⟨g', e1, ?_,a⟩
 rw[<-Option.some.inj (eX _ _ _ _ hT')];exact b
def SO{d:Tmp}{k:Nat}{v:AV}(Y:ev? s x=some v)(hf:fits true z v=true)(hk:dM H.T=some k)(hT': kU H.T (.Y [v]) some=some T')
  (kk:AD P A G K C (.tk::I) ((d, .an k z 1 0 0)::s) ⟨H.B,T'⟩):AD P A G K (⟨some d, .box T x,R,D,S,none⟩::C) I s H:=
 bT (t := .tk) (σ':= ⟨H.B,T'⟩) rfl ⟨rfl,λB=>by
  intro g w a next Q hI ho hn
  have h1:=op1 Y Wd ho
  obtain⟨c,_,_,n⟩:=nM hf h1
  generalize a3:a.eval x=zv at h1 c n
  have y:H.T++[.Y [v]]=T':= Option.some.inj (eX _ _ _ _ hT')
  have m:H.T.length=k:=dG hk
  have f:g.tk[k]? =none:=by
   have hlt:g.tk.length=H.T.length:=hI.lenT
   rw[<-m, <-hlt];simp
  have i:∀b o,(⟨some ⟨w.heap.size,0,none⟩,1,1,z,0⟩:A9).az b o->b=w.heap.size/\o<zv.cells.size:=by
   rintro b o ⟨p,hp,rfl,e1,q⟩
   cases hp
   refine⟨rfl, ?_⟩
   rw[c]
   simpa using q
  obtain⟨g', e1,q,e3,_⟩:=Kl (k:=k) (r':= ⟨some ⟨w.heap.size,0,none⟩,1,1,z,0⟩) (t' := .Y [v]) (J:=λ_ _=>False) hI (w':= dN w (.cells zv.cells T)) (.inr ⟨m.symm,rfl⟩)
   X5 rfl rfl rfl (λb hb _=>cO w _ hb) (λb o hb _=>(cF (cO w _ hb)).1) (λb o hb=>(cF (cO w _ hb)).2) (λ_ _ h=>h.elim)
   (λb o ho=>by
    obtain⟨rfl,h2⟩:=i b o ho
    exact⟨⟨zv.cells[o],(dW w zv.cells T o).trans (Array.getElem?_eq_getElem h2)⟩,j9 w zv.cells T o, .inl (le_refl _)⟩)
   (λr hr=>by rw[f]at hr;cases hr)
   (λg' a1=>⟨rfl,rfl,le_refl _,[zv],⟨zv,[],rfl,Ab.mono a1 _ _ h1,rfl⟩,(λe=>by cases e),(λV hV=>by rw[mem_singleton.1 hV];exact c),(λp hp=>by
    cases hp
    refine⟨.inl rfl,fK (λV hV=>by rw[mem_singleton.1 hV];exact c) λj u hj=> ?_⟩
    have l:zv.cells.toList[j]? =some u:=by simpa [flat]using hj
    refine⟨trivial, ?_,n u (List.mem_of_getElem? l)⟩
    show (dN w (.cells zv.cells T)).cell? ⟨w.heap.size,0+j,none⟩=some u
    rw[Nat.zero_add]
    exact(dW w zv.cells T j).trans XV)⟩)
  unfold Oper.wp
  simp only[execOp,Instr.box,newVar,newRow,newObj,Sem.run_bind,Result.andThen,Sem.run,a3]
  exact hn _ _ _ e1 (y▸q) ⟨w.heap.size,0,rfl,om,_,e3,rfl,le_refl _,λ_=>⟨rfl,_,rfl,rfl,rfl,Wa⟩⟩⟩ kk
def fY{d:Tmp}{k n j c:Nat}(Y:ev? s x=some (.an k z n j c))(h:AD P A G K C (.pure::I) ((d, .an k z n j c)::s) H):AD P A G K (⟨some d, .nilCheck x,R,D,S,none⟩::C) I s H:=
 bT rfl (eZ λg w a f=>by
  have h1:=op1 Y Wd f
  obtain⟨b,o,e,h2⟩:=h1
  exact⟨_,YJ,⟨b,o,rfl,h2⟩⟩) h
def bZ{d:Tmp}{i c:Nat}(k:AD P A G K C (.pure::I) ((d, .ptr i c)::s) H)(Y:ev? s x=some (.ptr i c):=by exact rfl):AD P A G K (⟨some d, .nilCheck x,R,D,S,none⟩::C) I s H:=
 bT rfl (eZ λg w a f=>by
  obtain⟨b,hb,e⟩:=op1 Y Wd f
  exact⟨_,YJ,⟨b,hb,rfl⟩⟩) k
def aAo{d:Tmp}{v:AV}(Y:ev? s x=some (.ab v))(f:AD P A G K C (.pure::I) ((d, .ab v)::s) H):AD P A G K (⟨some d, .nilCheck x,R,D,S,none⟩::C) I s H:=
 bT rfl (eZ λg w a c=>by
  have h1:=op1 Y Wd c
  obtain⟨b,o,V,e,h2⟩:=h1
  exact⟨_,YJ,⟨b,o,V,rfl,h2⟩⟩) f
def nD{H σ': St}{xs:List AV}{x:AV}{t:Tk}(h:AJ H x σ' y):AJ H (.slice (xs++[x]) t) σ' (.slice (xs++[y]) t):=λg w v m hr=>by
 obtain⟨a,cap,sz,Vs,e,h1,h2,h3,h4,l,i⟩:=hr
 have f:∀(xs:List AV) (Vs:List Value),AL g w (xs++[x]) Vs->∃V1 v1,Vs=V1++[v1]/\AL g w xs V1/\Ab g w x v1:=by
  intro xs
  induction xs with
  |nil=>rintro Vs ⟨v,r,rfl,b,d⟩;rw[show r=[] from d];exact⟨[],v,rfl,rfl,b⟩
  |cons c xs E=>
   rintro Vs ⟨v,r,rfl,b,d⟩
   obtain⟨V1,v1,rfl,n,o⟩:=E r d
   exact⟨v::V1,v1,rfl,⟨v,V1,rfl,b,n⟩,o⟩
 obtain⟨V1,v1,rfl,b,d⟩:=f xs Vs h4
 obtain⟨g', e1,j,k⟩:=h g w v1 m d
 exact⟨g', e1,j,a,cap,sz,V1++[v1],e,h1,h2,h3.mono e1.le,(AL.mono e1.le _ _ b).append (AL.cons k AL.nil),l,λp hp=>⟨(i p hp).1,(i p hp).2.mono e1.le⟩⟩
end
variable [AK]
theorem Qf(a l c:List α)(O:a.length<=c.length):upd (a++l) (List.range a.length) c=c.take a.length++l:=by
 apply List.ext_getElem?;intro j;by_cases hj:j<a.length
 ·have h1:=Cl (a++l) (List.range a.length) c j j nodup_range (λi X=>by rw[List.mem_range]at X;rw[List.length_append];omega) (by rw[List.length_range];exact O) (by rw[List.getElem?_range hj]);grind
 ·have h1:=Ck (a++l) (List.range a.length) c j (λh=>hj (List.mem_range.1 h));grind
def oL(a l c:List α)(h:l=[]\/c.length=a.length)(O:a.length<=c.length):fA (a++l) (List.range a.length) c=c++l:=by
 unfold fA;rw[Qf a l c O,List.length_range];rcases h with rfl|h
 ·simp
 ·grind
def sO{n m k:Nat}(h:m=0\/k<n):emb (n+m) (List.range n) k=k:=by grind[emb]
theorem n8{Q N:Nat->Nat}{n m:Nat}(hb:∀i,i<n->Q i=i)(ht:∀k,k<m->N k=k):∀B:List Ob,aQ n m B=true->B.map (Ob.ae Q N)=B
 |[],_=>rfl
 |o::B,h=>by
  rw[aQ,and_eq_true]at h;rw[List.map_cons,n8 hb ht B h.2];congr 1;cases o with
  |cells cs=>rw[Ob.ae,dX hb ht cs h.1]
  |map es=>
   rw[Ob.ae];congr 1;have:∀es:List (AV×AV),oP n m es=true->O7 Q N es=es:=by
    intro es;induction es with
    |nil=>intro _;rfl
    |cons p es E=>intro h;obtain⟨k,v⟩:=p;rw[oP,and_eq_true,and_eq_true]at h;rw[O7,iN hb ht k h.1.1,iN hb ht v h.1.2,E h.2]
   exact this es h.1
  |iter s p=>rfl
section
variable {P:Program} {A:Array Oper} {G:Bool} {K:AX->AE->St->Prop} {C:List Oper} {I:List Ak} {s:AE} {H:St} {R:TypeId} {D:String} {S:Array Edge}
def iL{d:Option Tmp}{f:FuncId}{a:List AV}{T0 T:List Tok}{v:AV}(ha:j7 s args.toList some=some J)
  (hp:AQ P f a ⟨B0,T0⟩ (λe x=>e = .ret v/\x=⟨B1,T1⟩)) (hσ:H=⟨B0++B,T0++T⟩) (y:B=[]\/B1.length=B0.length) (hT:T=[]\/T1.length=T0.length) (q:B0.length<=B1.length) (r:T0.length<=T1.length)
  (m:aQ B0.length T0.length B0=true) (o:aL B0.length T0.length T0=true) (u:aQ B1.length T1.length B1=true) (w:aL B1.length T1.length T1=true)
  (n:aE B0.length T0.length a=true) (hv:v.aa B1.length T1.length=true) (hw:AA J a)
  (k:AD P A G K C (.all::I) (iJ d v s) ⟨B1++B,T1++T⟩):AD P A G K (⟨d, .call ⟨.value (.func f),args,p⟩,R,D,S,none⟩::C) I s H:=by
 subst hσ;have g:∀i,i<B1.length->emb (B0.length+B.length) (List.range B0.length) i=i:=λi X=>sO (y.imp (λh=>by rw[h];rfl) (λh=>om))
 have l:∀i,i<T1.length->emb (T0.length+T.length) (List.range T0.length) i=i:=λi X=>sO (hT.imp (λh=>by rw[h];rfl) (λh=>om))
 have b:∀i,i<B0.length->emb (B0.length+B.length) (List.range B0.length) i=i:=λi X=>g i om
 have c:∀i,i<T0.length->emb (T0.length+T.length) (List.range T0.length) i=i:=λi X=>l i om
 have z:=n8 b c B0 m;have e1:=mJ b c T0 o;refine lX (nB:=B0.length+B.length) (nT:=T0.length+T.length) (List.range B0.length) (List.range T0.length) ha hp Wa Wa ⟨nodup_range,λi X=>WJ⟩ ⟨nodup_range,λi X=>WJ⟩
  Wa Wa (λj i ob h ho=> ?_) (λj i t h ht=> ?_) YH YF YG
  (by rw[dX b c a n];exact hw) (iN g l v hv) (B':= B1++B) (T':= T1++T) ?_ ?_ k
 ·grind
 ·grind
 ·rw[n8 g l B1 u];exact oL B0 B B1 y q
 ·rw[mJ g l T1 w];exact oL T0 T T1 hT r
def dC{d:Option Tmp}{f:FuncId}{T0:List Tok}{v:AV}(hp:AQ P f vals0 ⟨B0,T0⟩ (λe j=>e = .ret v/\j=⟨B1,T1⟩))(a:T0.length<=T1.length)(b:aQ B0.length T0.length B0=true)(h:aL B0.length T0.length T0=true)(c:aQ B1.length T1.length B1=true)(i:aL B1.length T1.length T1=true)(g:aE B0.length T0.length vals0=true)(k:AD P A G K C (.all::I) (iJ d v s) ⟨B1++B,T1⟩)(ha:j7 s args.toList some=some J:=by exact rfl)(hσ:H=⟨B0++B,T0⟩:=by exact rfl)(l:B1.length=B0.length:=by exact rfl)(hv:v.aa B1.length T1.length=true:=by exact rfl)(hw:AA J vals0:=by exact aD _):AD P A G K (⟨d, .call ⟨.value (.func f),args,p⟩,R,D,S,none⟩::C) I s H:=
 iL (B:=B) (T:=[]) ha hp (by rw[List.append_nil];exact hσ) (.inr l) (.inl rfl) om a b h c i g hv hw (by rw[List.append_nil];exact k)
def G8{d:Option Tmp}{f:FuncId}{fs cs J b:List AV}{B': List Ob}{T0 T': List Tok}{v0 v:AV}{nT:Nat}(c ts:List Nat)(Y:ev? s x=some (.fn (.func f) fs cs))(ha:j7 s args.toList some=some J)
  (hp:AQ P f b ⟨B0,T0⟩ (λe l=>e = .ret v0/\l=⟨B1,T1⟩)) (a3:H.B.length=nB) (a4:H.T.length=nT) (h:Bo nB c) (j:Bo nT ts) (n:B0.length=c.length) (o:T0.length=ts.length)
  (a5:∀(k i:Nat) (ob:Ob),c[k]? =some i->B0[k]? =some ob->H.B[i]? =some (ob.ae (emb nB c) (emb nT ts))) (a6:∀(k i:Nat) (t:Tok),ts[k]? =some i->T0[k]? =some t->H.T[i]? =some (t.ae (emb nB c) (emb nT ts)))
  (a0:aQ c.length ts.length B0=true) (a1:aL c.length ts.length T0=true) (a2:aE c.length ts.length b=true) (hw:AA (fs++J++cs) (aW (emb nB c) (emb nT ts) b))
  (hv:v0.ae (emb nB c) (emb nT ts)=v) (m:fA H.B c (B1.map (Ob.ae (emb nB c) (emb nT ts)))=B') (hT': fA H.T ts (T1.map (Tok.ae (emb nB c) (emb nT ts)))=T')
  (k:AD P A G K C (.all::I) (iJ d v s) ⟨B', T'⟩):AD P A G K (⟨d, .call ⟨.value x,args,p⟩,R,D,S,none⟩::C) I s H:=
 bT (t := .all) (σ':= ⟨B', T'⟩) rfl (by
  intro g w a next Q hI ho hn
  subst a3;subst a4
  have a7:args.toList.map (ev s)=J:=Option.some.inj (g6 _ _ _ ha)
  obtain⟨vs,us,y,q,r⟩:=op1 Y Wj ho
  have hl:=jF (g:=g) (w:=w) (s:=s) (a:=a) args.toList (λx Y=>ho x Wn)
  rw[a7]at hl
  obtain⟨p1,p2,p3,p4⟩:=Kh hI h j n o a5 a6 a0 a1
  have z:AL (g.pick c ts) w b (vs++args.map a.eval++us).toList:=by
   simp only[Array.toList_append,Array.toList_map]
   exact AL.a8 p2 b _ (by rw[p3,p4];exact a2) (hw _ _ _ ((q.append hl).append r))
  unfold Oper.wp
  rw[pQ hp.1 a w vs us y]
  refine(hp.2 _ w _ p1 z).mono ?_
  rintro e w' ⟨g1,l,x,h1,h2,h3,rfl,rfl⟩
  obtain⟨u,rfl,hu⟩:=h3
  obtain⟨g', e1,e2,e3⟩:=Ki hI h j p3 p4 p2 h1 h2
  rw[m,hT']at e2
  exact hn u w' g' e1 e2 (by rw[<-hv];exact Ab.ae e3 _ _ hu)) k
def ES{d:Option Tmp}{f:FuncId}{y cs J a:List AV}{T0:List Tok}{v:AV}(Y:ev? s x=some (.fn (.func f) y cs))(ha:j7 s args.toList some=some J)
  (hp:AQ P f a ⟨B0,T0⟩ (λe w=>e = .ret v/\w=⟨B1,T1⟩)) (hσ:H=⟨B0++B,T0⟩) (z:B1.length=B0.length) (q:T0.length<=T1.length)
  (m:aQ B0.length T0.length B0=true) (o:aL B0.length T0.length T0=true) (r:aQ B1.length T1.length B1=true) (u:aL B1.length T1.length T1=true)
  (n:aE B0.length T0.length a=true) (hv:v.aa B1.length T1.length=true) (hw:AA (y++J++cs) a)
  (k:AD P A G K C (.all::I) (iJ d v s) ⟨B1++B,T1⟩):AD P A G K (⟨d, .call ⟨.value x,args,p⟩,R,D,S,none⟩::C) I s H:=by
 subst hσ;have g:∀i,i<B1.length->emb (B0.length+B.length) (List.range B0.length) i=i:=λi X=>sO (.inr om)
 have l:∀i,i<T1.length->emb (T0.length+0) (List.range T0.length) i=i:=λi X=>sO (.inl rfl)
 have b:∀i,i<B0.length->emb (B0.length+B.length) (List.range B0.length) i=i:=λi X=>g i om
 have c:∀i,i<T0.length->emb (T0.length+0) (List.range T0.length) i=i:=λi X=>l i om
 have e0:=n8 b c B0 m;have e1:=mJ b c T0 o;refine G8 (nB:=B0.length+B.length) (nT:=T0.length+0) (List.range B0.length) (List.range T0.length) Y ha hp Wa rfl ⟨nodup_range,λi X=>WJ⟩ ⟨nodup_range,λi X=>WJ⟩
  Wa Wa (λj i ob h ho=> ?_) (λj i t h ht=> ?_) YH YF YG
  (by rw[dX b c a n];exact hw) (iN g l v hv) (B':= B1++B) (T':= T1) ?_ ?_ k
 ·grind
 ·grind
 ·rw[n8 g l B1 r];exact oL B0 B B1 (.inr z) om
 ·rw[mJ g l T1 u];have:=oL T0 [] T1 (.inl rfl) q;simp_all
def eP{H:St}{k:Nat}{x z0:AV}(hT:H.T[k]? =some (.Y [x]))(h:AC x y)(hT': j5 k (.Y [y]) H.T some=some T'):AJ H z0 ⟨H.B,T'⟩ z0:=λg w v a hr=>by
 obtain⟨l,c⟩:=d6 _ _ _ _ _ hT';have b:T'= H.T.set k (.Y [y]):=(Option.some.inj c).symm;subst b;have d:∀(j:Nat) (t:Tok) (r:A9),g.tk[j]? =some r->(H.T.set k (.Y [y]))[j]? =some t->A7 g w r t:=λj t r hj ht=>by
  by_cases e:j=k
  ·subst e;rw[List.getElem?_set_self l]at ht;cases ht;obtain⟨m,n,o,Vs,p,q,z,q7⟩:=a.tok j _ r hj hT;obtain⟨u,C,e1,f,i⟩:=p;exact⟨m,n,o,Vs,⟨u,C,e1,h g w u f,i⟩,q,z,q7⟩
  ·rw[List.getElem?_set_ne (Ne.symm e)]at ht;exact a.tok j t r hj ht
 exact⟨g,fD g w,⟨a.lenB,(by show g.tk.length=(H.T.set k (.Y [y])).length;rw[List.length_set];exact a.lenT),a.ob,a.nodup,a.noim,d,a.tkz,a.tkd,a.imlt,a.gl⟩,hr⟩
def gM{P:Program}{f:FuncId}{args:List AV}{H:St}{mT:Nat}{B': List Ob}(h:AQ P f args H (λe b=>∃v a,e = .ret v/\AJ b v a c/\a.B.take nB=B'/\ a.T.take mT=T'))(hv:c.aa nB mT=true)(i:aQ nB mT B'= true)(hT:aL nB mT T'= true)(hb:H.B.length<=nB:=by exact Nat.le_refl _)(ht:H.T.length<=mT:=by exact Nat.le_refl _):
  AQ P f args H (λe b=>e = .ret c/\b=⟨B', T'⟩):=
 ⟨h.1,λg w J X hl=>(h.2 g w J X hl).mono λe w' ⟨g', σ', x,h1,h2,h3,v,a,e1,h4,h5,h6⟩=>by
  subst e1
  obtain⟨u,rfl,j⟩:=h3
  obtain⟨d,k,l,m⟩:=h4 g' w' u h2 j
  subst h5;subst h6
  exact⟨d.bd nB mT,_, .ret c,rQ (h1.trans k) (by rw[X.lenB];exact hb) (by rw[X.lenT];exact ht),pF l i hT,⟨u,rfl,Ab.aa c u hv m⟩,rfl,rfl⟩⟩
end
theorem gN{v:Tok}:∀ {k:Nat} {T:List Tok} {f:List Tok->Option (List Tok)},k<T.length->j5 k v T f=f (T.set k v)
 |0,x::T,f,_=>rfl
 |k+1,x::T,f,h=>by rw[j5,gN Wp];rfl
 |_,[],_,h=>Wm
theorem oM(l:List α):dM l=some l.length:=by unfold dM;split<;>simp
theorem oN{α β:Type}:∀(l:List β) (x:β) (f:List β->Option α),kU l x f=f (l++[x])
 |[],x,f=>rfl
 |y::l,x,f=>by rw[kU,oN l];rfl
end Go.Av
namespace Go.Proofs.YtdodieljpcfpcaaGreatDoor
open Go Go.Av Go.Proofs.Tryz
attribute [local irreducible] AB AD AN AQ Av.AS AZ
theorem A0.K(f:A0):f.C.K=true:=WZ
theorem Nh(l:List A0):aB (l.map A0.C)=true:=bF A0.K l
@[simp] theorem aCs(n m:Nat)(l:List A0):aE n m (List.map A0.C l)=true:=aC n m _ (Nh l)
def Nd.kind:Nd->Int
 | .mk k _ _ _ _=>k
def Nd.must:Nd->Bool
 | .mk _ m _ _ _=>m
def Nd.v:Nd->AH
 | .mk _ _ v _ _=>v
def Nd.keys:Nd->List AF
 | .mk _ _ _ k _=>k
def Nd.l:Nd->List Nd
 | .mk _ _ _ _ l=>l
mutual
def Nd.kl:Nd->List AV
 | .mk _ _ _ _ l=>rI l
def rI:List Nd->List AV
 |[]=>[]
 |x::l => .ab (.agg [.int .i64 x.kind, .bool x.must, .int .i64 x.v.kind, .int .i64 x.v.n, .str x.v.s, .slice x.v.lv .no, .slice x.v.mv .no, .slice (x.keys.map AV.str) .no, .slice [] .nil, .slice (Nd.kl x) .no])::rI l
end
def Nd.aj(x:Nd):AV := .agg [.int .i64 x.kind, .bool x.must, .int .i64 x.v.kind, .int .i64 x.v.n, .str x.v.s, .slice x.v.lv .no, .slice x.v.mv .no, .slice (x.keys.map AV.str) .no, .slice [] .nil, .slice x.kl .no]
mutual
def Nd.nl:Nd->List AV
 | .mk _ _ _ _ l=>xC l
def xC:List Nd->List AV
 |[]=>[]
 |x::l => .agg [.int .i64 x.kind, .bool x.must, .int .i64 x.v.kind, .int .i64 x.v.n, .str x.v.s, .slice x.v.lv .no, .slice x.v.mv .no, .slice (x.keys.map AV.str) .no, .slice (Nd.nl x) .no]::xC l
end
def Nd.C(x:Nd):AV := .agg [.int .i64 x.kind, .bool x.must, .int .i64 x.v.kind, .int .i64 x.v.n, .str x.v.s, .slice x.v.lv .no, .slice x.v.mv .no, .slice (x.keys.map AV.str) .no, .slice x.nl .no]
theorem DY:∀l:List Nd,rI l=l.map λx => .ab x.aj
 |[]=>by simp[rI]
 |x::l=>by rw[rI,DY l];rfl
theorem DZ:∀l:List Nd,xC l=l.map Nd.C
 |[]=>by simp[xC]
 |x::l=>by rw[xC,DZ l];rfl
theorem Nd.ca(x:Nd):x.kl=x.l.map λy => .ab y.aj:=by cases x;rw[Nd.kl,DY];rfl
theorem Nd.cb(x:Nd):x.nl=x.l.map Nd.C:=by cases x;rw[Nd.nl,DZ];rfl
mutual
theorem d8:∀x:Nd,x.aj.K=true
 | .mk k m v a l=>by
  simp only[Nd.aj,AV.K,aB,Bool.and_true,Bool.true_and,AH.bo,AH.bt,aR]
  rw[Nd.kl,xD l]
theorem xD:∀l:List Nd,aB (rI l)=true
 |[]=>by simp[rI,aB]
 |x::l=>by
  have h1:=d8 x
  have h2:=xD l
  rw[rI,aB,h2,Bool.and_true]
  exact h1
end
mutual
theorem Nd.K:∀x:Nd,x.C.K=true
 | .mk k m v a l=>by
  simp only[Nd.C,AV.K,aB,Bool.and_true,Bool.true_and,AH.bo,AH.bt,aR]
  rw[Nd.nl,z6 l]
theorem z6:∀l:List Nd,aB (xC l)=true
 |[]=>by simp[xC,aB]
 |x::l=>by
  have h1:=Nd.K x
  have h2:=z6 l
  rw[xC,aB,h2,Bool.and_true]
  exact h1
end
def ET(l:List Nd):aB (l.map Nd.C)=true:=by rw[<-DZ];exact z6 l
theorem gX(l:List Nd):aB (l.map λy=>AV.ab y.aj)=true:=by rw[<-DY];exact xD l
def kn0(must:Bool):AV := .agg [.int .i64 0, .bool must, .int .i64 0, .int .i64 0, .str [], .slice [] .nil, .slice [] .nil, .slice [] .nil, .slice [] .nil, .slice [] .nil]
def Vq{B:List Ob}{T:List Tok}{j b n:Nat}{xs:List AV}{d l:AV}(hj:T[j]? =some (.Y [.agg [c,d,f,g,h,i,k,l,m, .slice xs (.own b 1)]]))(hb:T[b]? =some (.len n))(hn:xs.length=n)(t:j≠b)(v:n<=1099511627776):
  AQ prog 113 [.an j 10 1 0 0] ⟨B,T⟩ (λe σ'=> e = .ret (AV.an T.length 10 1 0 0)/\
   σ'= ⟨B,((T++[Tok.Y [kn0 false]]).set b (.len (n+1))).set j (.Y [.agg [c,d,f,g,h,i,k,l,m, .slice (xs++[AV.an T.length 10 1 0 0]) (.own b 1)]])⟩):=by
 have u:=(List.getElem?_eq_some_iff.1 hj).1;have p:=(List.getElem?_eq_some_iff.1 hb).1;have a:(T++[Tok.Y [kn0 false]])[j]? =some (.Y [.agg [c,d,f,g,h,i,k,l,m, .slice xs (.own b 1)]]):=by rw[List.getElem?_append_left u];exact hj
 have o:(T++[Tok.Y [kn0 false]])[b]? =some (.len n):=by rw[List.getElem?_append_left p];exact hb
 have r:((T++[Tok.Y [kn0 false]]).set b (.len (n+1)))[j]? =some (.Y [.agg [c,d,f,g,h,i,k,l,m, .slice xs (.own b 1)]]):=by rw[List.getElem?_set_ne (Ne.symm t)];exact a
 refine cK [2] func113 ?_
 repeat' first|refine SO (z:=10) rfl rfl (oM _) (oN _ _ _) ?_|refine fY rfl ?_|refine .s1 ?_|(refine .q ?_ ?_<;>intro O)|refine fF (hTk:=a) (hn:=by exact rfl) (hy:=by exact rfl) ?_|refine bU (n:=n) (hTk:=o) (hT':= gN Wh) hn ?_|refine aX (agg:=true) (hTk:=r) (hT':= gN Wh) ?_|fail
 exact⟨rfl,rfl⟩
def aAp(p:Ac)(x:AS)(hp:p.length<=2097152):AN prog 58 [.slice (p.map AS.C) .no,x.C] (.slice ((p++[x]).map AS.C) .no):=by
 refine pEn 4 func58 (O:=by have:=dK (p++[x]);simp only[AV.K,this];rfl) (ha:=by simp[aB,AV.K,dK,AS.C]) ?_;have a:(p.map AS.C).length=p.length:=List.length_map ..
 repeat' first|refine .s1 ?_|(refine .q ?_ ?_<;>intro O)|refine Th (n:=p.length+1) rfl rfl rfl rfl rfl om Wl om rfl rfl ?_|refine bU (n:=0) (hf:=G3 p) (hb:=by dsimp only;omega) (hb':= by omega) rfl ?_|refine bU (n:=0+(p.map AS.C).length) (show ([]++p.map AS.C).length=_ by simp) ?_|fail
 refine aP rfl (AC.no ?_);have e:([]++p.map AS.C++[x.C])=(p++[x]).map AS.C:=Wa
 show AA _ ((p++[x]).map AS.C);rw[<-e];exact aD _
def uQ:List Field:=[{ name := "Table",type:=9,offset:=0,embedded:=false,tag := "",pkgPath := "",byteOffset:=0 },{ name := "Key",type:=9,offset:=1,embedded:=false,tag := "",pkgPath := "",byteOffset:=16 }]
def SP:CS prog 65 uQ:=⟨underlying65,Wb,Wb,Wc⟩
def UQ(x y:Aa):Ft prog uQ 0 [.str x.table, .str x.key] [.str y.table, .str y.key]=some (decide (x=y)):=by
 have:Ft prog uQ 0 [.str x.table, .str x.key] [.str y.table, .str y.key]=some (x.table==y.table&&(x.key==y.key&&true)):=rfl;rw[this];obtain⟨a,b⟩:=x;obtain⟨c,e⟩:=y
 congr 1
 rw[Bool.eq_iff_iff];simp
theorem qF(l:List Aa):aB (l.map Aa.C)=true:=bF Aa.K l
@[simp] theorem aB2(n m:Nat)(l:List Aa):aE n m (List.map Aa.C l)=true:=aC n m _ (qF l)
def Ni(l:List Aa)(x:Aa)(hl:l.length<=9223372036854775807):AN prog 111 [.slice (l.map Aa.C) .no,x.C] (.int .i64 (bE (λy=>decide (x=y)) l 0)):=by
 refine pEn 4 func111 (ha:=by simp[AV.K,aB,qF,Aa.K]) ?_;refine .ac ?_;refine bK (hj:=rfl) l.length (λk=>[(8, .int .i64 k),(7, .int .i64 l.length),(0, .slice (l.map Aa.C) .no),(3, .ab x.C)]) (λ_=>⟨[],[]⟩) (λk=>bE (λy=>decide (x=y)) l 0=bE (λy=>decide (x=y)) (l.drop k) k) Z0 λk hk hp=> ?_
 by_cases h1:k<l.length
 ·have b:=ltT h1;have x1:=aU (f:=Aa.C) h1;have a:=cP (p:=λy=>decide (x=y)) h1;have c:=UQ x l[k]
  repeat' first|refine .s1 ?_|(refine .q ?_ ?_<;>intro O)|refine Qx SP rfl rfl c ?_|fail
  ·refine aP rfl (AC.eq ?_);rw[hp,a,if_pos O]
  ·exact⟨h1,Z0,by simp[aM,AV.aa,Aa.C,aE],rfl,rfl,by rw[hp,a,if_neg (by rw[O];decide)]⟩
 ·have b:=ltF h1;refine .go ?_;refine aP rfl (AC.eq ?_);rw[hp,List.drop_eq_nil_of_le om,bE]
def HB(l:List Aa)(x:Aa)(hl:l.length<=9223372036854775807):AN prog 55 [.slice (l.map Aa.C) .no,x.C] (.bool (decide (x∈l))):=by have h:=Ni l x hl;refine pEn 4 func55 (ha:=by simp[AV.K,aB,qF,Aa.K]) ?_;refine .ac ?_;refine Fin.rb ?_;have:=Fc (λy=>decide (x=y)) l;rw[show decide (bE (λy=>decide (x=y)) l 0≥0)=decide (0<=bE (λy=>decide (x=y)) l 0) from rfl,this,Bool.eq_iff_iff,List.any_eq_true,decide_eq_true_eq];exact⟨λ⟨y,hy,e⟩=>by rw[decide_eq_true_eq]at e;exact e▸hy,λh=>⟨x,h,Wa⟩⟩
def rJ(s:AI)(d:AR)(A:List AG)(rd ly:AV)(F:List A0):List AV:=
 [.slice (s.ah.map Ag.C) .no, .str s.query, .str s.ar, .slice (d.ops.map Aj.C) .no, .slice (d.ai.map Af.C) .no, .slice (A.map AG.C) .no,rd,ly, .slice (F.map A0.C) (.own 0 2)]
def JX(s:AI)(d:AR)(A:List AG)(x w:AV)(B:List Ob)(T:List Tok)(F:List A0)(j:Nat)(p:Ac)(e:Int){y g h i k l m u v:AV}(h0:T[0]? =some (.len F.length))(hj:T[j]? =some (.Y [.agg [y,g,h,i,k,l,m,o,u,v]]))(b:j≠0)(hF:F.length<=68719476736):
  AQ prog 51 [.ptr 0 0, .an j 10 1 0 0, .slice (p.map AS.C) .no, .int .i64 e] ⟨.cells (rJ s d A x w F)::B,T⟩
   (λr σ'=> r = .ret (.tup [])/\σ'= ⟨.cells (rJ s d A x w (F++[⟨p,e⟩]))::B,(T.set j (.Y [.agg [.int .i64 3,g,h,i,k,l,m,o,u,v]])).set 0 (.len (F.length+1))⟩):=by
 have c:=(List.getElem?_eq_some_iff.1 hj).1;have a:∀t:Tok,(T.set j t)[0]? =some (.len F.length):=λt=>by rw[List.getElem?_set_ne b];exact h0
 have f:(F.map A0.C).length=F.length:=List.length_map _;refine cK [] func51 ?_;unfold rJ
 repeat' first|refine .s1 ?_|(refine .q ?_ ?_<;>intro O)|refine fY rfl ?_|refine bZ ?_|refine aX (agg:=true) (hTk:=hj) (hT':= gN c) ?_|refine bU (n:=F.length) (hTk:=a _) (hT':= gN (by simp only[List.length_set];omega)) f ?_|fail
 refine⟨rfl, ?_⟩;rw[List.map_append];rfl
def Vr(s:AI)(d:AR)(A:List AG)(c b:AV)(B:List Ob)(T:List Tok)(F:List A0)(j:Nat)(p:Ac){n e l:AV}(h0:T[0]? =some (.len F.length))(hj:T[j]? =some (.Y [.agg [n, .bool true,e,f,g,h,i,k,l,m]]))(a:j≠0)(hF:F.length<=68719476736):
  AQ prog 52 [.ptr 0 0, .an j 10 1 0 0, .slice (p.map AS.C) .no] ⟨.cells (rJ s d A c b F)::B,T⟩
   (λr σ'=> r = .ret (.tup [])/\σ'= ⟨.cells (rJ s d A c b (F++[⟨p,9⟩]))::B,(T.set j (.Y [.agg [.int .i64 3, .bool true,e,f,g,h,i,k,l,m]])).set 0 (.len (F.length+1))⟩):=by
 have hb:=JX s d A c b B T F j p 9 h0 hj a hF;refine cK [] func52 ?_
 repeat' first|refine .s1 ?_|(refine .q ?_ ?_<;>intro O)|refine fY rfl ?_|refine fF (hTk:=hj) (hn:=by exact rfl) (hy:=by exact rfl) ?_|refine dR hb ?_|fail
 exact⟨rfl,rfl⟩
def Nj(s:AI)(d:AR)(A:List AG)(b a:AV)(B:List Ob)(T:List Tok)(F:List A0)(j:Nat)(p:Ac){e l:AV}(hj:T[j]? =some (.Y [.agg [c, .bool false,e,f,g,h,i,k,l,m]])):
  AQ prog 52 [.ptr 0 0, .an j 10 1 0 0, .slice (p.map AS.C) .no] ⟨.cells (rJ s d A b a F)::B,T⟩
   (λr σ'=> r = .ret (.tup [])/\σ'= ⟨.cells (rJ s d A b a F)::B,T⟩):=by
 refine cK [] func52 ?_
 repeat' first|refine .s1 ?_|(refine .q ?_ ?_<;>intro O)|refine fY rfl ?_|refine fF (hTk:=hj) (hn:=by exact rfl) (hy:=by exact rfl) ?_|fail
 exact⟨rfl,rfl⟩
end Go.Proofs.YtdodieljpcfpcaaGreatDoor
namespace Go.Av
open Go
section
variable [AK]
variable {P:Program} [Lay P] {N:Nat} {D:List Deferred} {K:AX->AE->St->Prop} {s:AE} {H:St}
theorem SQ(w:World)(x y:Array Value)(T:TypeId):tH (dN w (.cells x T)) w.heap.size y T=dN w (.cells y T):=by
 have:(w.heap.push (.cells x T)).setIfInBounds w.heap.size (.cells y T (0,0))=w.heap.push (.cells y T):=WN
 unfold tH dN;simp_all
def Nk{f:TI}(hT:ty? P T=some f)(hz:f.size=1){w:World}{x:Array Value}(Y:x.size=1){a:Act}{d:Tmp}{b:Bool}{R:TypeId}{D:String}{S:Array Edge}{next:Act->World->Prop}{Q:Exit->Act->World->Prop}
  (ha:a.eval (.tmp d) = .pointer (some ⟨w.heap.size,0,none⟩)) (h:next (a.put none undef) (dN w (.cells #[.bool b] T))):
  Oper.wp P ⟨none, .store T (.tmp d) (.const (.bool b)),R,D,S,none⟩ a (dN w (.cells x T)) next Q:=by
 have hh:(dN w (.cells x T)).heap[w.heap.size]? =some (.cells x T (0,0)):=rW w _;have c:=run_storeCells_at P w.heap.size 0 T [.bool b] 0 x (dN w (.cells x T)) hh Yo (by intro u e;simp at e;subst e;rfl);rw[vZ hh,SQ]at c;have g:(x.toList.take 0++[Value.bool b]++x.toList.drop (0+[Value.bool b].length)).toArray = #[.bool b]:=WN
 have i:(a.eval (.const (.bool b))).cells.toList=[.bool b]:=rfl;have j:(a.eval (.const (.bool b))).cells.size=1:=rfl;unfold Oper.wp;simp only[execOp,ha,Instr.storeAt,Instr.sureAddr,storeVar,Sem.run_bind,Sem.run_pure,Result.andThen,cZ hT,hz,i,j,ne_eq,not_true_eq_false,if_false];rw[c];rw[g];exact h
def uR{b:Array Oper}{Q:Exit->Act->World->Prop}{i:Nat}{K:Act->World->Prop}{a:Act}{w:World}{o:Oper}(h:b[i]? =some o)(c:o.guard=none)(hh:o.wp P a w K Q):wpOp P b Q i K a w:=by unfold wpOp;rw[h];dsimp only;rw[if_pos (by unfold Region.wanted;rw[c])];simp_all
def Vt(ops:Array Oper):Bool:=
 decide (Region.ready .any ops (Array.replicate 4 false)=[0])&&(decide (Region.ready .any ops ((Array.replicate 4 false).setIfInBounds 0 true)=[1,2])&&(decide (Region.ready .any ops (((Array.replicate 4 false).setIfInBounds 0 true).setIfInBounds 1 true)=[2])&&(decide (Region.ready .any ops (((Array.replicate 4 false).setIfInBounds 0 true).setIfInBounds 2 true)=[1])&&(decide (Region.ready .any ops ((((Array.replicate 4 false).setIfInBounds 0 true).setIfInBounds 1 true).setIfInBounds 2 true)=[3])&&(decide (Region.ready .any ops ((((Array.replicate 4 false).setIfInBounds 0 true).setIfInBounds 2 true).setIfInBounds 1 true)=[3])&&(decide (Region.ready .any ops (((((Array.replicate 4 false).setIfInBounds 0 true).setIfInBounds 1 true).setIfInBounds 2 true).setIfInBounds 3 true)=[])&&(decide (Region.ready .any ops (((((Array.replicate 4 false).setIfInBounds 0 true).setIfInBounds 2 true).setIfInBounds 1 true).setIfInBounds 3 true)=[]))))))))
def OP{id:Nat}{c f:Tmp}{ti:TI}{y1 y2 y3 y4:TypeId}{p1 p2 p3 z:String}{a1 a2 a3 v:Array Edge}{m:Array Oper}
  (t:m = #[⟨some c, .alloc T,y1,p1,a1,none⟩,⟨none, .store T (.tmp c) (.const (.bool true)),y2,p2,a2,none⟩,⟨none, .store T (.tmp c) (.const (.bool false)),y3,p3,a3,none⟩,⟨some f, .load T (.tmp c),y4,z,v,none⟩])
  (hT:ty? P T=some ti) (hz:ti.size=1) (hg:ti.agg=false) (r:P.follows .mixedOrders=true) (n:c<N) (a9:f<N)
  (hR:Vt m=true)
  (h:∀b,K .normal ((f, .bool b)::(c, .undef)::s) H):AB P N D (.region id m true) K s H:=λg w a X hr ha hd=>by
 unfold Vt at hR
 simp only[and_eq_true,decide_eq_true_eq]at hR
 obtain⟨r0,r1,r2,r3,r4,r5,r6,r7⟩:=hR
 subst t
 refine wp_region_any r ?_
 have q:=X.drew (w.drawn+1)
 have k:=Ar.drew g w (w.drawn+1)
 generalize { w with drawn:=w.drawn+1 }=w1 at q k
 obtain⟨zv,aa,av,l,aw⟩:=nQ hT w1
 rw[hz]at l
 have fin:∀b:Bool,∀d:Act,d=((a.put (some c) (.pointer (some ⟨w1.heap.size,0,none⟩))).put none undef).put none undef->
   Bx g w N D K .normal (d.put (some f) (.bool b)) (dN w1 (.cells #[.bool b] T)):=by
  rintro b d rfl
  obtain⟨n1,n2⟩:=FM q #[.bool b] T 0 (Nat.zero_le _)
  refine⟨.normal,_,H,_,rfl, ?_, ?_,k.trans n1,n2, ?_,h b⟩
  ·simpa [Act.put]using ha
  ·simpa [Act.put]using hd
  ·refine A3.put ?_ (by simpa [Act.put,ha]using a9) rfl
   exact A3.put ((hr.mono k.le).mono n1.le) (by rw[ha];exact n) trivial
 have e1:(a.put (some c) (.pointer (some ⟨w1.heap.size,0,none⟩))).eval (.tmp c) = .pointer (some ⟨w1.heap.size,0,none⟩):=by
  simp[Act.eval,Act.put,Array.getD,ha,n]
 have ld:∀(b:Bool) (d:Act) (Q:Exit->Act->World->Prop) (nx:Act->World->Prop),d.eval (.tmp c) = .pointer (some ⟨w1.heap.size,0,none⟩)->nx (d.put (some f) (.bool b)) (dN w1 (.cells #[.bool b] T))->
   Oper.wp P ⟨some f, .load T (.tmp c),y4,z,v,none⟩ d (dN w1 (.cells #[.bool b] T)) nx Q:=λb d Q nx ea hn=>by
  have hl:=lY hT (w:=dN w1 (.cells #[.bool b] T)) (b:=w1.heap.size) (o:=0) (V := .bool b) (λj u hj=>by
   rw[Nat.zero_add,dW];exact hj) (λe=>by rw[hg]at e;cases e) (λ_=>rfl)
  unfold Oper.wp
  simp only[execOp,ea,Instr.loadAt,Instr.sureAddr,Sem.run_bind,Sem.run_pure,Result.andThen,hl]
  exact hn
 have st:∀(b:Bool) (x:Array Value) (d:Act) (Q:Exit->Act->World->Prop) (nx:Act->World->Prop) (y:TypeId) (p:String) (S:Array Edge),x.size=1->d.eval (.tmp c) = .pointer (some ⟨w1.heap.size,0,none⟩)->nx (d.put none undef) (dN w1 (.cells #[.bool b] T))->
   Oper.wp P ⟨none, .store T (.tmp c) (.const (.bool b)),y,p,S,none⟩ d (dN w1 (.cells x T)) nx Q:=λb x d Q nx y p S Y ea hn=>Nk hT hz Y ea hn
 show wpAny P .any _ _ 4 (Array.replicate 4 false) a w1
 rw[wpAny]
 refine⟨λe=>(by rw[r0]at e;cases e),λi hi'=> ?_⟩
 rw[r0]at hi'; obtain rfl:=mem_singleton.1 hi'
 refine uR (o:=⟨some c, .alloc T,y1,p1,a1,none⟩) rfl rfl ?_
 unfold Oper.wp
 simp only[execOp,Instr.alloc,aa,newVar,newRow,newObj,Sem.run_bind,Result.andThen,Sem.run]
 show wpAny P .any _ _ 3 _ (a.put (some c) (.pointer (some ⟨w1.heap.size,0,none⟩))) (dN w1 (.cells zv.cells T))
 rw[wpAny]
 refine⟨λe=>(by rw[r1]at e;cases e),λi hi'=> ?_⟩
 rw[r1]at hi'
 simp only[List.mem_cons,List.not_mem_nil,or_false]at hi'
 rcases hi' with rfl|rfl
 ·refine uR (o:=⟨none, .store T (.tmp c) (.const (.bool true)),y2,p2,a2,none⟩) rfl rfl ?_
  refine st true _ _ _ _ _ _ _ l e1 ?_
  rw[wpAny]
  refine⟨λe=>(by rw[r2]at e;cases e),λi hi'=> ?_⟩
  rw[r2]at hi'; obtain rfl:=mem_singleton.1 hi'
  refine uR (o:=⟨none, .store T (.tmp c) (.const (.bool false)),y3,p3,a3,none⟩) rfl rfl ?_
  refine st false _ _ _ _ _ _ _ rfl e1 ?_
  rw[wpAny]
  refine⟨λe=>(by rw[r4]at e;cases e),λi hi'=> ?_⟩
  rw[r4]at hi'; obtain rfl:=mem_singleton.1 hi'
  refine uR (o:=⟨some f, .load T (.tmp c),y4,z,v,none⟩) rfl rfl ?_
  refine ld false _ _ _ e1 ?_
  rw[wpAny]
  exact⟨r6,fin false _ rfl⟩
 ·refine uR (o:=⟨none, .store T (.tmp c) (.const (.bool false)),y3,p3,a3,none⟩) rfl rfl ?_
  refine st false _ _ _ _ _ _ _ l e1 ?_
  rw[wpAny]
  refine⟨λe=>(by rw[r3]at e;cases e),λi hi'=> ?_⟩
  rw[r3]at hi'; obtain rfl:=mem_singleton.1 hi'
  refine uR (o:=⟨none, .store T (.tmp c) (.const (.bool true)),y2,p2,a2,none⟩) rfl rfl ?_
  refine st true _ _ _ _ _ _ _ rfl e1 ?_
  rw[wpAny]
  refine⟨λe=>(by rw[r5]at e;cases e),λi hi'=> ?_⟩
  rw[r5]at hi'; obtain rfl:=mem_singleton.1 hi'
  refine uR (o:=⟨some f, .load T (.tmp c),y4,z,v,none⟩) rfl rfl ?_
  refine ld true _ _ _ e1 ?_
  rw[wpAny]
  exact⟨r7,fin true _ rfl⟩
end
end Go.Av
namespace Go.Proofs.YtdodieljpcfpcaaGreatDoor
open Go Go.Av Go.Proofs.Tryz
attribute [local irreducible] AB AD AN AQ Av.AS AZ
def LA:TI:=⟨.func,1,8,false, .nilfn,[],0⟩
def Vu:CE prog 361 LA:=Fz .nilFunc Wb underlying361 rfl rfl rfl rfl rfl Wb rfl Wb
def Vv:CE prog 248 LA:=Fz .nilFunc Wb underlying248 rfl rfl rfl rfl rfl Wb rfl Wb
def SR:List (Nat×TI):=(361,LA)::(248,LA)::table
instance layF:Lay prog:=⟨SR,⟨Vu,Vv,Hq⟩,checked.mixed⟩
def Qg{l:List AF}{k:Nat}(h:k<l.length):(l.take (k+1)).Nodup↔(l.take k).Nodup/\l[k]∉l.take k:=WK
mutual
def szV:AH->Nat
 | .mk _ _ s l m=>1+s.length+szL l+szM m
def szL:List AH->Nat
 |[]=>0
 |v::l=>szV v+szL l
def szM:List AG->Nat
 |[]=>0
 | .mk n v::m=>n.length+szV v+szM m
end
mutual
theorem G9:∀v:AH,szV v<=v.size
 | .mk _ _ s l m=>by have h1:=SS l;have h2:=Nl m;rw[szV,AH.size];omega
theorem SS:∀l:List AH,szL l<=iO l
 |[]=>by rw[szL];omega
 |v::l=>by have h1:=G9 v;have h2:=SS l;rw[szL,iO];omega
theorem Nl:∀m:List AG,szM m<=mW m
 |[]=>by rw[szM];omega
 | .mk n v::m=>by have h1:=G9 v;have h2:=Nl m;rw[szM,mW];omega
end
def aAq(v:AH):szV v=1+v.s.length+szL v.l+szM v.m:=by cases v;rw[szV];rfl
def ST{l:List AH}{k:Nat}(h:k<l.length):szL (l.take (k+1))=szL (l.take k)+szV l[k]:=by
 induction l generalizing k with
 |nil=>simp at h
 |cons x l E=>
  cases k with
  |zero=>simp[szL]
  |succ k=>simp only[take_succ_cons,szL,List.getElem_cons_succ];rw[E Wp];omega
def SU{l:List AG}{k:Nat}(h:k<l.length):szM (l.take (k+1))=szM (l.take k)+l[k].name.length+szV l[k].v:=by
 induction l generalizing k with
 |nil=>simp at h
 |cons x l E=>
  cases k with
  |zero=>cases x;simp[szM,AG.name,AG.v]
  |succ k=>cases x;simp only[take_succ_cons,szM,List.getElem_cons_succ];rw[E Wp];omega
def SV(l:List AH)(k:Nat):szL (l.take k)<=szL l:=by
 induction l generalizing k with
 |nil=>simp
 |cons x l E=>
  cases k with
  |zero=>simp[szL]
  |succ k=>simp only[take_succ_cons,szL];have:=E k;omega
def SW(l:List AG)(k:Nat):szM (l.take k)<=szM l:=by
 induction l generalizing k with
 |nil=>simp
 |cons x l E=>
  cases k with
  |zero=>simp[szM]
  |succ k=>cases x;simp only[take_succ_cons,szM];have:=E k;omega
def Vw:∀N:Nat,N<=137438953472->∀v:AH,v.size<=N->AN prog 13 [v.C] (.int .i64 (szV v))
 |0,_,v,hv=>absurd hv Xp
 |N+1,h,v,hv=>by
  have E:=Vw N om;have d:=G9 v;have a:=aAq v;have e:=v.bu;have g:=v.b3;refine pEn 2 func13 ?_;refine .ac ?_;refine bK v.l.length (λk=>[(4, .int .i64 k),(3, .int .i64 ((1:Int)+v.s.length+szL (v.l.take k))),(1, .ab v.C)]) (λ_=>⟨[],[]⟩) (λ_=>True) ⟨rfl,congrArg (AV.int .i64) (by simp[szL]),rfl,trivial⟩ λk hk _=> ?_
  by_cases h1:k<v.l.length
  ·have b:decide ((k:Int)<(v.lv.length:Int))=true:=by rw[v.ba];simp[h1]
   have x1:=lK h1;have O:=E v.l[k] Zm;have ht:=ST h1;have f:=SV v.l (k+1);refine .go ?_;exact⟨h1,⟨rfl,congrArg (AV.int .i64) W7,rfl,trivial⟩,Wg,rfl,rfl,trivial⟩
  ·have b:decide ((k:Int)<(v.lv.length:Int))=false:=by rw[v.ba];simp;omega
   obtain rfl:k=v.l.length:=om
   refine .go ?_;refine bK v.m.length (λk=>[(5, .int .i64 k),(3, .int .i64 ((1:Int)+v.s.length+szL v.l+szM (v.m.take k))),(1, .ab v.C)]) (λ_=>⟨[],[]⟩) (λ_=>True) ⟨rfl,congrArg (AV.int .i64) (by simp[szM]),rfl,trivial⟩ λj hj _=> ?_
   by_cases h2:j<v.m.length
   ·have c:decide ((j:Int)<(v.mv.length:Int))=true:=by rw[v.bl];simp[h2]
    have i:=xU h2;have O:=E v.m[j].v (by have:=dP h2;omega);have ht:=SU h2;have f:=SW v.m (j+1);refine .go ?_;exact⟨h2,⟨rfl,congrArg (AV.int .i64) W7,rfl,trivial⟩,Wg,rfl,rfl,trivial⟩
   ·have c:decide ((j:Int)<(v.mv.length:Int))=false:=by rw[v.bl];simp;omega
    obtain rfl:j=v.m.length:=om
    refine .go ?_;refine aP rfl (AC.eq (congrArg (AV.int .i64) ?_));rw[take_length,a];omega
def z7(v:AH)(h:v.size<=137438953472):AN prog 13 [v.C] (.int .i64 (szV v)):=Vw _ h v (le_refl _)
def mG(l:List AF):Nat:=aA (λs:AF=>1+s.length) l
def mH(l:List AO):Nat:=aA (λp:AO=>1+p.name.length+szV p.d) l
def gJ(l:List AM):Nat:=aA (λd:AM=>1+d.name.length+(1+szM d.args)) l
def rK(l:List Ah):Nat:=aA (λf:Ah=>1+f.name.length+mH f.params+gJ f.ao) l
def sP(d:Ag):Nat:=1+d.name.length+mG d.faces+mG d.aw+mH d.params+rK d.fields
def IF(s:AI):Nat:=aA sP s.ah
def gO{f:α->Nat}{l:List α}{k:Nat}(h:k<l.length):aA f (l.take (k+1))=aA f (l.take k)+f l[k]:=by
 induction l generalizing k with
 |nil=>simp at h
 |cons x l E=>
  cases k with
  |zero=>simp[aA]
  |succ k=>simp only[take_succ_cons,aA,List.getElem_cons_succ];rw[E Wp];omega
def fO(f:α->Nat)(l:List α)(k:Nat):aA f (l.take k)<=aA f l:=by
 induction l generalizing k with
 |nil=>simp
 |cons x l E=>
  cases k with
  |zero=>simp[aA]
  |succ k=>simp only[take_succ_cons,aA];have:=E k;omega
def nE{α:Type}{f g:α->Nat}(h:∀x,f x<=g x):∀l:List α,aA f l<=aA g l
 |[]=>le_refl _
 |x::l=>by simp only[aA];have:=h x;have:=nE h l;omega
def Fj(m:List AG):szM m<=aA AG.size m:=by rw[<-iP];exact Nl m
def yG(l:List AF):mG l<=dA l:=by have:mG l<=aA (λs:AF=>s.length+1) l:=nE (λ_=>om) l;unfold dA;omega
def D0(l:List AO):mH l<=aA AO.size l:=nE (λp=>by have:=G9 p.d;unfold AO.size;omega) l
def pM(l:List AM):gJ l<=aA AM.size l:=nE (λd=>by have:=Fj d.args;unfold AM.size;omega) l
def Qh(l:List Ah):rK l<=aA Ah.size l:=nE (λf=>by have:=D0 f.params;have:=pM f.ao;unfold Ah.size;omega) l
def SX(d:Ag):sP d<=d.size:=by have:=yG d.faces;have:=yG d.aw;have:=D0 d.params;have:=Qh d.fields;unfold sP Ag.size;omega
def SY(s:AI):IF s<=s.size:=by have:IF s<=aA Ag.size s.ah:=nE SX s.ah;unfold AI.size;omega
def OQ(l:List AF)(h:mG l<=68719476736)(hl:l.length<=68719476736):AN prog 83 [.slice (l.map AV.str) .no] (.int .i64 (mG l)):=by
 refine pEn 2 func83 ?_;refine .go ?_;refine bK l.length (λk=>[(4, .int .i64 k),(3, .int .i64 (mG (l.take k))),(0, .slice (l.map AV.str) .no)]) (λ_=>⟨[],[]⟩) (λ_=>True) Z0 λk hk _=> ?_
 by_cases h1:k<l.length
 ·have a:=ltT h1;have x1:=aU (f:=AV.str) h1;have ht:mG (l.take (k+1))=mG (l.take k)+(1+l[k].length):=gO h1;have b:mG (l.take (k+1))<=mG l:=fO _ l (k+1);refine .go ?_;exact⟨h1,⟨rfl,congrArg (AV.int .i64) W7,rfl,trivial⟩,Wg,rfl,rfl,trivial⟩
 ·have a:=ltF h1;obtain rfl:k=l.length:=om
  refine .go ?_;refine aP rfl (AC.eq (congrArg (AV.int .i64) ?_));rw[take_length]
def LB(l:List AO)(h:aA AO.size l<=68719476736):AN prog 84 [.slice (l.map AO.C) .no] (.int .i64 (mH l)):=by
 have hl:=aJ AO.au l;have b:=D0 l;refine pEn 2 func84 ?_;refine .go ?_;refine bK l.length (λk=>[(4, .int .i64 k),(3, .int .i64 (mH (l.take k))),(0, .slice (l.map AO.C) .no)]) (λ_=>⟨[],[]⟩) (λ_=>True) Z0 λk hk _=> ?_
 by_cases h1:k<l.length
 ·have a:=ltT h1;have x1:=aU (f:=AO.C) h1;have hz:=z7 l[k].d (by have:=aN (size:=AO.size) (getElem_mem h1);have:=l[k].lens;omega);have ht:mH (l.take (k+1))=mH (l.take k)+(1+l[k].name.length+szV l[k].d):=gO h1;have c:mH (l.take (k+1))<=mH l:=fO _ l (k+1);refine .go ?_;exact⟨h1,⟨rfl,congrArg (AV.int .i64) W7,rfl,trivial⟩,Wg,rfl,rfl,trivial⟩
 ·have a:=ltF h1;obtain rfl:k=l.length:=om
  refine .go ?_;refine aP rfl (AC.eq (congrArg (AV.int .i64) ?_));rw[take_length]
def UR(l:List AM)(h:aA AM.size l<=68719476736):AN prog 85 [.slice (l.map AM.C) .no] (.int .i64 (gJ l)):=by
 have hl:=aJ AM.au l;have d:=pM l;refine pEn 2 func85 ?_;refine .go ?_;refine bK l.length (λk=>[(4, .int .i64 k),(3, .int .i64 (gJ (l.take k))),(0, .slice (l.map AM.C) .no)]) (λ_=>⟨[],[]⟩) (λ_=>True) Z0 λk hk _=> ?_
 by_cases h1:k<l.length
 ·have a:=ltT h1;have x1:=aU (f:=AM.C) h1;have hz:=z7 (.mk 0 0 [] [] l[k].args) (by have h2:=aN (size:=AM.size) (getElem_mem h1);have h3:l[k].size=l[k].name.length+aA AG.size l[k].args+3:=rfl;rw[AH.size,iO,iP];simp only[length_nil];omega);have b:szV (.mk 0 0 [] [] l[k].args)=1+szM l[k].args:=by rw[szV,szL];simp only[length_nil]
  rw[b]at hz;have c:AA [AV.agg [.int .i64 0, .int .i64 0, .str [], .slice [] .nil, .slice (l[k].args.map AG.C) .no]] [(AH.mk 0 0 [] [] l[k].args).C]:=by refine AA.cons ?_ (aD _);unfold AH.C;rw[sC,AH.bf];exact AC.agg (AA.cons (aG _) (AA.cons (aG _) (AA.cons (aG _) (AA.cons (AC.no (aD _)) (aD _)))))
  have ht:gJ (l.take (k+1))=gJ (l.take k)+(1+l[k].name.length+(1+szM l[k].args)):=gO h1;have e:gJ (l.take (k+1))<=gJ l:=fO _ l (k+1);repeat' first|refine aH (hw:=c) hz ?_|refine .s1 ?_|(refine .q ?_ ?_<;>intro O)|fail
  exact⟨h1,⟨rfl,congrArg (AV.int .i64) W7,rfl,trivial⟩,Wg,rfl,rfl,trivial⟩
 ·have a:=ltF h1;obtain rfl:k=l.length:=om
  refine .go ?_;refine aP rfl (AC.eq (congrArg (AV.int .i64) ?_));rw[take_length]
theorem Ag.b1(d:Ag):aA AO.size d.params<=d.size/\aA Ah.size d.fields<=d.size/\dA d.faces<=d.size/\dA d.aw<=d.size:=WA
theorem Ah.b1(f:Ah):aA AO.size f.params<=f.size/\aA AM.size f.ao<=f.size/\f.name.length<=f.size/\f.t.name.length<=f.size:=by unfold Ah.size Ae.size;omega
def rL(s:AI):Bool:=decide (IF s<=4000)
def aAr(s:AI)(hs:s.size<=68719476736):AN prog 36 [s.C] (.bool (rL s)):=by
 have hl:=s.len;have n:=SY s;refine pEn 2 func36 ?_;refine .ac ?_;refine bK s.ah.length (λk=>[(4, .int .i64 k),(3, .int .i64 (aA sP (s.ah.take k):Nat)),(1, .ab s.C)]) (λ_=>⟨[],[]⟩) (λ_=>True) Z0 λk hk _=> ?_
 by_cases h1:k<s.ah.length
 ·have e:=ltT h1;have x1:=aU (f:=Ag.C) h1;have i:=lP (getElem_mem h1);have c:=s.ah[k].lens;have d:=s.ah[k].b1;have p:=OQ s.ah[k].faces (by have:=yG s.ah[k].faces;omega) om;have q:=OQ s.ah[k].aw (by have:=yG s.ah[k].aw;omega) om;have r:=LB s.ah[k].params om;have ht:aA sP (s.ah.take (k+1))=aA sP (s.ah.take k)+sP s.ah[k]:=gO h1;have o:aA sP (s.ah.take (k+1))<=IF s:=fO _ s.ah (k+1);have h:sP s.ah[k]=1+s.ah[k].name.length+mG s.ah[k].faces+mG s.ah[k].aw+mH s.ah[k].params+rK s.ah[k].fields:=rfl;refine .go ?_;refine bK s.ah[k].fields.length (λj=>[(6, .int .i64 j),(3, .int .i64 ((aA sP (s.ah.take k):Nat)+1+s.ah[k].name.length+mG s.ah[k].faces+mG s.ah[k].aw+mH s.ah[k].params+rK (s.ah[k].fields.take j))),(1, .ab s.C),(4, .int .i64 k),(5, .ptr 0 0)]) (λ_=>⟨[.cells [.int .i64 s.ah[k].kind, .str s.ah[k].name, .slice (s.ah[k].faces.map AV.str) .no, .slice (s.ah[k].fields.map Ah.C) .no, .slice (s.ah[k].aw.map AV.str) .no, .slice (s.ah[k].params.map AO.C) .no]],[]⟩) (λ_=>True) ⟨rfl,congrArg (AV.int .i64) (by rw[List.take_zero];simp[rK,aA]),rfl,rfl,rfl,trivial⟩ λj hj _=> ?_
  by_cases h2:j<s.ah[k].fields.length
  ·have g:=ltT h2;have v:=aU (f:=Ah.C) h2;have l:=aN (size:=Ah.size) (getElem_mem h2);have m:=s.ah[k].fields[j].b1;have t:=LB s.ah[k].fields[j].params om;have u:=UR s.ah[k].fields[j].ao om;have a:rK (s.ah[k].fields.take (j+1))=rK (s.ah[k].fields.take j)+(1+s.ah[k].fields[j].name.length+mH s.ah[k].fields[j].params+gJ s.ah[k].fields[j].ao):=gO h2;have b:rK (s.ah[k].fields.take (j+1))<=rK s.ah[k].fields:=fO _ _ (j+1);refine .go ?_;exact⟨h2,⟨rfl,congrArg (AV.int .i64) Zg,rfl,rfl,rfl,trivial⟩,Wg,by simp[aQ,aL,Ob.aa,aE,AV.aa],rfl,trivial⟩
  ·have g:=ltF h2;obtain rfl:j=s.ah[k].fields.length:=om
   refine .go ?_;exact⟨h1,⟨rfl,congrArg (AV.int .i64) (by rw[ht,take_length];omega),rfl,trivial⟩,Wg,rfl,rfl,trivial⟩
 ·have e:=ltF h1;obtain rfl:k=s.ah.length:=om
  refine .go ?_;refine Fin.rb ?_;unfold rL IF;rw[take_length,Bool.eq_iff_iff];simp only[decide_eq_true_eq];omega
end Go.Proofs.YtdodieljpcfpcaaGreatDoor
