/- Joined texts. -/
import Derived.Test.YtimbiifcnhgcoaaGreatDoorGEvK4
set_option maxRecDepth 100000
set_option maxHeartbeats 16000000
set_option linter.all false
open List (mem_singleton nodup_range)
open Nat (le_refl le_trans zero_add zero_le)
open Bool (and_eq_true)
open Go Go.Av Go.Proofs.YtimbiifcnhgcoaaGreatDoor Go.Proofs.Tryz
variable{α:Type}{n:AG}{c y f g h i k o m:AV}{args:Array Operand}{p:Array TypeId}{xs a:List AV}{B0 B1 B:List Ob}{T' T1:List Tok}{nB z:Nat}{x:Operand}{T:TypeId}
namespace Go.Proofs.YtimbiifcnhgcoaaGreatDoor
open Go Go.Av Go.Proofs.Tryz
attribute [local irreducible] AB AD AN AI Av.AU AZ
def U1(l:List AF)(h:l.length<=1048576):AI prog 51 [.slice (l.map AF.C) .no] ⟨[],[]⟩ (λe H=>e = .ret (.aa 0 6 l.length 0 l.length)/\H=⟨[],[.aa (l.map AF.C)]⟩):=by
 have b:(l.map AF.C).length=l.length:=List.length_map ..
 refine Pi (aS [2] func51 ?_);refine tC 0 rfl (λhn=> ?_) ?_
 ·have a:l=[]:=by cases l with|nil=>rfl|cons _ _=>cases hn
  subst a
  repeat' first|refine .s1 ?_|(refine .q ?_ ?_<;>intro O)|refine Jd rfl rfl rfl ?_|fail
  exact⟨_,rfl,kA rfl rfl rfl⟩
 ·repeat' first|refine .s1 ?_|(refine .q ?_ ?_<;>intro O)|refine FA rfl rfl rfl ?_|refine dJ (m:=l.length) rfl rfl rfl rfl rfl rfl rfl rfl (z6 l) b Wg om rfl ?_|fail
  exact⟨_,rfl,eM _ _⟩
def SU(l:List AF)(f:FuncId)(c:AV)(p:AF->Bool)(g:l.length<=9223372036854775807)(b:c.K=true)(hf:∀x∈l,AN prog f [x.C,c] (.bool (p x))):
  AN prog 302 [.slice (l.map AF.C) .no, .fn (.func f) [] [c]] (.int .i64 (bG p l 0)):=by
 refine AI.plain rfl (by simp[AV.K,aA,aR,b]) (aS [4] func302 ?_);refine .go ?_;change AB _ _ _ _ _ _ _;refine AB.loop (λn s H=>∃k:Nat,n=l.length-k/\k<=l.length/\bG p l 0=bG p (l.drop k) k/\H=⟨[],[]⟩/\
  s=[(8, .int .i64 k),(7, .int .i64 l.length),(0, .slice (l.map AF.C) .no),(1, .fn (.func f) [] [c])])
  (s0:=[(8, .int .i64 (0:Nat)),(7, .int .i64 l.length),(0, .slice (l.map AF.C) .no),(1, .fn (.func f) [] [c])])
  Z9 ⟨0,rfl,zero_le _,rfl,rfl,rfl⟩ ?_
 rintro n s H ⟨k,rfl,hk,hp,rfl,rfl⟩;by_cases a:k<l.length
 ·have e:decide ((k:Int)<(l.length:Int))=true:=by simp[a]
  have x1:=aV (f:=AF.C) a;have d:=hf l[k] (List.getElem_mem a)
  repeat' first|refine .s1 ?_|(refine .q ?_ ?_<;>intro O)|refine Jc rfl rfl d (aB _) ?_|fail
  ·refine aP rfl (AC.eq ?_);rw[hp,cR a,if_pos O]
  ·refine⟨l.length-(k+1),om,[(8, .int .i64 ((k+1:Nat):Int)),(7, .int .i64 l.length),(0, .slice (l.map AF.C) .no),(1, .fn (.func f) [] [c])],
    Z9,by simp[aM,AV.ab,aE,dG,aF _ _ _ b],rfl,k+1,rfl,om,XB,rfl,rfl⟩
 ·have e:decide ((k:Int)<(l.length:Int))=false:=by simp;omega
  refine .go ?_;refine aP rfl (AC.eq ?_);rw[hp,List.drop_eq_nil_of_le om,bG]
def aDJ(m:AF)(a:AG):AN prog 303 [m.C, .ac (.str a)] (.bool (m.name==a)):=by refine AI.plain rfl (by simp[aA,AF.K,AV.K]) (aS [3] func303 ?_);refine .go ?_;exact bY
def oY(l:List AF)(name:AG)(v:AH):List AF:=
 match qJ (λm:AF=>m.name==name) l with
 |none=>l++[.mk name v]
 |some i=>yS l i λm => .mk m.name v
def SV{H:St}{k n:Nat}(hT:H.T[k]? =some (.aa xs))(hn:xs.length=n)(O:aA xs=true):A1 H (.aa k z n 0 n) (.slice xs .no):=by
 have h:=A1.aa (lo:=0) (X:=n) (z:=z) hT hn (Al.K (H:=H) O)
 rwa [List.drop_zero,List.take_of_length_le om]at h
theorem set(l:List AF)(name:AG)(v:AH)(h:l.length<=1048576):AN prog 251 [.slice (l.map AF.C) .no, .str name,v.C] (.slice ((oY l name v).map AF.C) .no):=by
 refine jF Zu (by simp[aA,AV.K,aR,AH.K]) (aS [6] func251 ?_);have hn:=U1 l h;have c:aA [.slice (l.map AF.C) .no]=true:=by simp[aA,AV.K,aR]
 have d:aL 0 1 [.aa (l.map AF.C)]=true:=by simp[aL,Tok.ab,dG]
 have g:(l.map AF.C).length=l.length:=Wb
 have a:=SU l 303 (.ac (.str name)) (λm=>m.name==name) om rfl (λx _=>aDJ x name);have b:Al ⟨[],[.aa (l.map AF.C)]⟩ [.aa 0 6 l.length 0 l.length, .fn (.func 303) [] [.ac (.str name)]] [.slice (l.map AF.C) .no, .fn (.func 303) [] [.ac (.str name)]]:=
  Al.cons (SV rfl g (aR l)) (Al.cons (A1.K rfl) Al.nil)
 rcases mO (λm:AF=>m.name==name) l 0 with⟨h3,h4⟩|⟨k,hk,h3,h4,h5⟩
 ·rw[h3]at a;have e:oY l name v=l++[.mk name v]:=by unfold oY;rw[h4]
  repeat' first|refine cW rfl rfl ?_|refine .s1 ?_|(refine .q ?_ ?_<;>intro O)|refine tA rfl rfl ?_|refine jR rfl rfl hn c (aB _) rfl d ?_|refine xN rfl a b rfl ?_|refine eG (m:=l.length+1) rfl rfl rfl rfl rfl rfl rfl rfl g rfl rfl Wg om rfl ?_|fail
  refine⟨_,_,rfl,(cA rfl Wb rfl).trans (AK.a7 (AC.no (AA.eq ?_)))⟩;rw[e,List.drop_zero,List.take_of_length_le Wb,List.map_append];rfl
 ·rw[h3]at a;simp only[zero_add]at a;have j:decide ((k:Int)<0)=false:=by simp
  have i:k<l.length-0:=hk;have x1:=aV (f:=AF.C) hk;have e:oY l name v=l.set k (.mk l[k].name v):=by unfold oY;rw[h4];exact sM hk _
  repeat' first|refine cW rfl rfl ?_|refine .s1 ?_|(refine .q ?_ ?_<;>intro O)|refine tA rfl rfl ?_|refine jR rfl rfl hn c (aB _) rfl d ?_|refine xN rfl a b rfl ?_|refine fI rfl rfl rfl rfl rfl rfl rfl Wh (zero_add _) ?_|refine j4 rfl rfl rfl rfl rfl rfl ?_|refine fD rfl rfl rfl Wh Wh rfl ?_|refine jE rfl rfl rfl rfl ?_|refine bC (agg:=true) rfl rfl rfl rfl rfl g x1 rfl rfl rfl rfl ?_|fail
  refine⟨_,_,rfl,(cA rfl Wb rfl).trans (AK.a7 (AC.no (AA.eq ?_)))⟩;rw[e,List.drop_zero,List.take_of_length_le Wb,List.map_set];rfl
def iC(r:Row)(name:AG):AH:=(bT name r.aq).1
def col(r:Row)(name:AG)(b:r.aq.length<=9223372036854775807):AN prog 61 [r.C, .str name] (iC r name).C:=by
 refine AI.plain (AH.K _) (by simp[aA,AV.K,Row.K]) (cE [.cell 4 43] func61 ?_);have a:=get name r.aq b;repeat' first|refine cW rfl rfl ?_|refine .s1 ?_|(refine .q ?_ ?_<;>intro O)|refine aH rfl a (aB _) ?_|fail
 exact aO
def jB(n:Int):Bool:=decide (-2147483648<=n)&&decide (n<=2147483647)
def within(n:Int):AN prog 254 [.int .i64 n] (.bool (jB n)):=by
 refine AI.plain rfl rfl (aS [2] func254 ?_);repeat' first|refine .s1 ?_|(refine .q ?_ ?_<;>intro O)|fail
 all_goals refine aP rfl (AC.eq ?_)
 all_goals first|(simp_all[jB];done)|(simp_all[jB];omega)
def vA:AG:=[112,117,116]
def vB:AG:=[99,117,116]
def SW:AG:=[97,100,100]
def kY:AG:=[98,117,114,110]
def iD:AG:=[107,101,121]
def sBy:AG:=[98,121]
def uL(n:AG):Bool:=n==vA||n==vB||n==SW||n==kY
def VG(n:AG):AN prog 186 [.str n] (.bool (uL n)):=by
 refine AI.plain rfl rfl (aS [2] func186 ?_);repeat' first|refine .s1 ?_|(refine .q ?_ ?_<;>intro O)|fail
 all_goals refine aP rfl (AC.eq ?_)
 all_goals simp_all[uL,vA,vB,SW,kY]
def eO:List AF->List AF->List AF
 |[],cols=>cols
 |m::args,cols=>eO args (if m.name != iD then oY cols m.name m.v else cols)
theorem iR{l a:List AF}{k:Nat}(h:k<l.length):eO (l.drop k) a=eO (l.drop (k+1)) (if l[k].name != iD then oY a l[k].name l[k].v else a):=by rw[List.drop_eq_getElem_cons h,eO]
def qH(l:List AF)(n:AG)(v:AH):(oY l n v).length<=l.length+1:=by
 unfold oY;split
 ·simp
 ·unfold yS;split<;>simp
def qX:∀(args a:List AF),(eO args a).length<=a.length+args.length
 |[],a=>by simp[eO]
 |m::args,a=>by rw[eO];have b:=qX args (if m.name != iD then oY a m.name m.v else a);have c:=qH a m.name m.v;grind
structure BN(B:Nat)(l:List AY):Prop where
 len:l.length<=B
 ag:∀t∈l,t.ag.length<=B
 aq:∀t∈l,∀r∈t.ag,r.aq.length<=B
def uM(c:BF)(key:AG)(g:Bt):Row:=
 let r:=if g.is then g.row else ⟨key,c.aw,[],false⟩
 { r with aq:=eO c.args r.aq }
def aET(l:List AY)(c:BF)(a:AG)(g:Bt)(hf:BN 1048576 l)(O:g.row.aq.length+c.args.length<=1048576):
  AN prog 187 [Tbls.C l,c.C, .str a,g.C] (.tup [Tbls.C (sN l c.table (uM c a g)),(iF a).C, .int .i64 0]):=by
 refine AI.plain Zv (by simp[AV.K,aA,Tbls.K,BF.K,Bt.K]) (cE [.tmp 8, .cell 9 43, .tmp 10] func187 ?_);obtain⟨p,e⟩:∃p:Row,p=if g.is then g.row else ⟨a,c.aw,[],false⟩:=⟨_,rfl⟩
 have o:uM c a g={ p with aq:=eO c.args p.aq }:=by unfold uM;rw[e]
 have d:p.aq.length+c.args.length<=1048576:=by
  rw[e];split
  ·exact O
  ·simp only[List.length_nil];omega
 have hpl:=qX c.args p.aq;have b:=put l c.table (uM c a g) hf.len hf.ag hf.aq (by rw[o];dsimp only;omega);have r:=MV a;rw[o]at b ⊢;cases m:g.is
 ·have h:p=⟨a,c.aw,[],false⟩:=by rw[e,m];rfl
  rw[h]at b d hpl ⊢;clear h e o;have w:(!g.is)=true:=by rw[m];rfl
  repeat' first|refine cW rfl rfl ?_|refine .s1 ?_|(refine .q ?_ ?_<;>intro O)|fail|fail
  change AB _ _ _ _ _ _ _;refine fV 1 2 rfl rfl (AK.a7 (AC.no (aB _))) rfl ?_;refine AB.loop (λn s H=>∃(k:Nat) (cols:List AF),n=c.args.length-k/\k<=c.args.length/\cols.length+(c.args.length-k)<=1048576/\eO c.args (⟨a,c.aw,[],false⟩:Row).aq=eO (c.args.drop k) cols/\
   H=⟨[.cells fF, .cells [.str (⟨a,c.aw,[],false⟩:Row).key, .str (⟨a,c.aw,[],false⟩:Row).aw, .slice (cols.map AF.C) .no, .bool (⟨a,c.aw,[],false⟩:Row).broken]],[]⟩/\
   s=[(26, .int .i64 k),(25, .int .i64 c.args.length),(24, .slice (c.args.map AF.C) .no),(0,Tbls.C l),(5, .ac c.C),(2, .str a),(11, .ptr 1 0),(9, .ptr 0 0)])
   (s0:=[(26, .int .i64 (0:Nat)),(25, .int .i64 c.args.length),(24, .slice (c.args.map AF.C) .no),(0,Tbls.C l),(5, .ac c.C),(2, .str a),(11, .ptr 1 0),(9, .ptr 0 0)])
   Z9 ⟨0,(⟨a,c.aw,[],false⟩:Row).aq,rfl,zero_le _,(by rw[Nat.sub_zero];exact d),rfl,rfl,rfl⟩ ?_
  rintro n s H ⟨k,cols,rfl,hk,hcl,hp,rfl,rfl⟩;by_cases j:k<c.args.length
  ·have t:decide ((k:Int)<(c.args.length:Int))=true:=by simp[j]
   have x1:=aV (f:=AF.C) j;have i:=set cols c.args[k].name c.args[k].v om;have u:=qH cols c.args[k].name c.args[k].v
   repeat' first|refine .s1 ?_|(refine .q ?_ ?_<;>intro O)|refine aH rfl i (aB _) ?_|fail
   ·refine⟨c.args.length-(k+1),om,[(26, .int .i64 ((k+1:Nat):Int)),(25, .int .i64 c.args.length),(24, .slice (c.args.map AF.C) .no),(0,Tbls.C l),(5, .ac c.C),(2, .str a),(11, .ptr 1 0),(9, .ptr 0 0)],
     Z9,Wy,Xr,k+1,oY cols c.args[k].name c.args[k].v,rfl,om,om, ?_,rfl,rfl⟩
    rw[hp,iR j,if_pos Y6]
   ·refine⟨c.args.length-(k+1),om,[(26, .int .i64 ((k+1:Nat):Int)),(25, .int .i64 c.args.length),(24, .slice (c.args.map AF.C) .no),(0,Tbls.C l),(5, .ac c.C),(2, .str a),(11, .ptr 1 0),(9, .ptr 0 0)],
     Z9,Wy,Xr,k+1,cols,rfl,om,om, ?_,rfl,rfl⟩
    rw[hp,iR j,if_neg Y6]
  ·have t:decide ((k:Int)<(c.args.length:Int))=false:=by simp;omega
   rw[List.drop_eq_nil_of_le om,eO]at hp;rw[hp]at b ⊢
   repeat' first|refine .s1 ?_|(refine .q ?_ ?_<;>intro O)|refine aH rfl b (aB _) ?_|refine aH rfl r (aB _) ?_|fail
   exact aO
 ·have h:p=g.row:=by rw[e,m];rfl
  rw[h]at b d hpl ⊢;clear h e o;have w:(!g.is)=false:=by rw[m];rfl
  repeat' first|refine cW rfl rfl ?_|refine .s1 ?_|(refine .q ?_ ?_<;>intro O)|fail|fail
  change AB _ _ _ _ _ _ _
  skip
  refine AB.loop (λn s H=>∃(k:Nat) (cols:List AF),n=c.args.length-k/\k<=c.args.length/\cols.length+(c.args.length-k)<=1048576/\eO c.args (g.row:Row).aq=eO (c.args.drop k) cols/\
   H=⟨[.cells fF, .cells [.str (g.row:Row).key, .str (g.row:Row).aw, .slice (cols.map AF.C) .no, .bool (g.row:Row).broken]],[]⟩/\
   s=[(26, .int .i64 k),(25, .int .i64 c.args.length),(24, .slice (c.args.map AF.C) .no),(0,Tbls.C l),(5, .ac c.C),(2, .str a),(11, .ptr 1 0),(9, .ptr 0 0)])
   (s0:=[(26, .int .i64 (0:Nat)),(25, .int .i64 c.args.length),(24, .slice (c.args.map AF.C) .no),(0,Tbls.C l),(5, .ac c.C),(2, .str a),(11, .ptr 1 0),(9, .ptr 0 0)])
   Z9 ⟨0,(g.row:Row).aq,rfl,zero_le _,(by rw[Nat.sub_zero];exact d),rfl,rfl,rfl⟩ ?_
  rintro n s H ⟨k,cols,rfl,hk,hcl,hp,rfl,rfl⟩;by_cases j:k<c.args.length
  ·have t:decide ((k:Int)<(c.args.length:Int))=true:=by simp[j]
   have x1:=aV (f:=AF.C) j;have i:=set cols c.args[k].name c.args[k].v om;have u:=qH cols c.args[k].name c.args[k].v
   repeat' first|refine .s1 ?_|(refine .q ?_ ?_<;>intro O)|refine aH rfl i (aB _) ?_|fail
   ·refine⟨c.args.length-(k+1),om,[(26, .int .i64 ((k+1:Nat):Int)),(25, .int .i64 c.args.length),(24, .slice (c.args.map AF.C) .no),(0,Tbls.C l),(5, .ac c.C),(2, .str a),(11, .ptr 1 0),(9, .ptr 0 0)],
     Z9,Wy,Xr,k+1,oY cols c.args[k].name c.args[k].v,rfl,om,om, ?_,rfl,rfl⟩
    rw[hp,iR j,if_pos Y6]
   ·refine⟨c.args.length-(k+1),om,[(26, .int .i64 ((k+1:Nat):Int)),(25, .int .i64 c.args.length),(24, .slice (c.args.map AF.C) .no),(0,Tbls.C l),(5, .ac c.C),(2, .str a),(11, .ptr 1 0),(9, .ptr 0 0)],
     Z9,Wy,Xr,k+1,cols,rfl,om,om, ?_,rfl,rfl⟩
    rw[hp,iR j,if_neg Y6]
  ·have t:decide ((k:Int)<(c.args.length:Int))=false:=by simp;omega
   rw[List.drop_eq_nil_of_le om,eO]at hp;rw[hp]at b ⊢
   repeat' first|refine .s1 ?_|(refine .q ?_ ?_<;>intro O)|refine aH rfl b (aB _) ?_|refine aH rfl r (aB _) ?_|fail
   exact aO
def kG(n:Int):Int:=IntKind.i64.wrap n
def He(l:List AY)(c:BF)(r:Row):List AY×AH×Int:=
 let b:=(bT sBy c.args).1
 let w:=iC r c.col
 if b.kind != 2 then (l,bP,1)
 else if w.kind != 2 then (l,bP,7)
 else if !jB b.n || !jB w.n || !jB (kG (b.n+w.n)) then (l,bP,8)
 else (sN l c.table { r with aq:=oY r.aq c.col (zO (kG (b.n+w.n))) },zO (kG (b.n+w.n)),0)
def uN{l:List AY}{v:AH}{e:Int}:(AV.tup [Tbls.C l,v.C, .int .i64 e]).K=true:=Zv
def qI{l:List AY}{n:Int}{e:Int}{s:AG}{k:Int}{t1 t2:Tk}:AC (.tup [Tbls.C l, .agg [.int .i64 k, .int .i64 n, .str s, .slice [] t1, .slice [] t2], .int .i64 e]) (.tup [Tbls.C l,(AH.mk k n s [] []).C, .int .i64 e]):=
 AC.tup (AA.cons (aG _) (AA.cons cF (aB _)))
def aEU(l:List AY)(c:BF)(r:Row)(hf:BN 1048576 l)(O:r.aq.length+1<=1048576)(ha:c.args.length<=1048576):
  AN prog 189 [Tbls.C l,c.C,r.C] (.tup [Tbls.C (He l c r).1,(He l c r).2.1.C, .int .i64 (He l c r).2.2]):=by
 refine AI.plain uN (by simp[AV.K,aA,Tbls.K,BF.K,Row.K]) (cE [.tmp 6, .cell 7 43, .tmp 8] func189 ?_);have i:=get sBy c.args om;have a:=col r c.col om;have e:=within (bT sBy c.args).1.n;have f:=within (iC r c.col).n;have g:=within (kG ((bT sBy c.args).1.n+(iC r c.col).n));have wW:=aEE (kG ((bT sBy c.args).1.n+(iC r c.col).n));have d:=set r.aq c.col (zO (kG ((bT sBy c.args).1.n+(iC r c.col).n))) om;have h:=qH r.aq c.col (zO (kG ((bT sBy c.args).1.n+(iC r c.col).n)));have b:=put l c.table { r with aq:=oY r.aq c.col (zO (kG ((bT sBy c.args).1.n+(iC r c.col).n))) } hf.len hf.ag hf.aq Wg
 repeat' first|refine .s1 ?_|(refine .q ?_ ?_<;>intro O)|refine aH rfl i (aB _) ?_|refine aH rfl a (aB _) ?_|refine aH rfl e (aB _) ?_|refine aH rfl f (aB _) ?_|refine Kl rfl rfl ?_|refine aH rfl g (aB _) ?_|refine aH rfl wW (aB _) ?_|refine aH rfl d (aB _) ?_|refine aH rfl b (aB _) ?_|fail
 all_goals clear i a e f g wW d b h
 all_goals refine aI rfl ?_
 all_goals unfold He
 all_goals dsimp only
 all_goals (repeat' split)<;>first|exact qI|exact aG _|(exfalso;simp_all;done)
def f8(l:List AY)(c:BF):List AY×AH×Int:=
 if !uL c.name then (l,bP,1)
 else if c.name==kY then (l,bP,11)
 else if (bT iD c.args).1.kind != 4 then (l,bP,1)
 else if (cP l ⟨c.table,(bT iD c.args).1.s⟩).e != 0 then (l,bP,(cP l ⟨c.table,(bT iD c.args).1.s⟩).e)
 else if c.name==vA then (sN l c.table (uM c (bT iD c.args).1.s (cP l ⟨c.table,(bT iD c.args).1.s⟩)),iF (bT iD c.args).1.s,0)
 else if !(cP l ⟨c.table,(bT iD c.args).1.s⟩).is then (l,bP,6)
 else if c.name==vB then (w8 l c.table (bT iD c.args).1.s,iF (bT iD c.args).1.s,0)
 else He l c (cP l ⟨c.table,(bT iD c.args).1.s⟩).row
def SX(l:List AY)(c:BF)(r:Row)(h:(He l c r).2.2≠0):(He l c r).1=l:=by
 unfold He at h ⊢;dsimp only at h ⊢
 (repeat' split)<;>simp_all
def LC(l:List AY)(c:BF)(h:(f8 l c).2.2≠0):(f8 l c).1=l:=by
 have ha:=SX l c (cP l ⟨c.table,(bT iD c.args).1.s⟩).row;unfold f8 at h ⊢
 (repeat' split)<;>simp_all
def Hf{B:Nat}{l:List AY}(hf:BN B l)(n:Ae):(cP l n).row.aq.length<=B:=by
 unfold cP;split
 ·simp[qU,qS]
 ·rename_i t ht;split
  ·simp[qU,qS]
  ·rename_i r hr;unfold EZ;split
   ·simp[qS]
   ·exact hf.aq t (List.mem_of_find?_eq_some ht) r (List.mem_of_find?_eq_some hr)
theorem BN.le{B B': Nat}{l:List AY}(hf:BN B l)(h:B<=B'):BN B' l:=⟨le_trans hf.len h,λt ht=>le_trans (hf.ag t ht) h,λt ht r hr=>le_trans (hf.aq t ht r hr) h⟩
def aBD(l:List AY)(c:BF)(hb:c.name=kY):CN prog 119 [Tbls.C l,c.C] (.iface 280 (.agg [])):=by
 refine Kq rfl X8 (cE [.tmp 4, .cell 5 43, .tmp 6] func119 ?_);have hk:=VG c.name;have e1:uL c.name=true:=YF
 have a:(c.name==[98,117,114,110])=true:=YF
 have b:(!uL c.name)=false:=by rw[e1];rfl
 repeat' first|refine cW rfl rfl ?_|refine .s1 ?_|(refine .q ?_ ?_<;>intro O)|refine aH rfl hk (aB _) ?_|refine Eu rfl Wd rfl ?_|refine TC rfl ?_|fail
 all_goals rfl
def doF(l:List AY)(c:BF)(hb:(c.name==kY)=false){B:Nat}(hf:BN B l)(k:B+c.args.length+1<=1048576):
  AN prog 119 [Tbls.C l,c.C] (.tup [Tbls.C (f8 l c).1,(f8 l c).2.1.C, .int .i64 (f8 l c).2.2]):=by
 refine AI.plain uN X8 (cE [.tmp 4, .cell 5 43, .tmp 6] func119 ?_);have a:BN 1048576 l:=hf.le om;have hk:=VG c.name;have i:=get iD c.args om;have b:=aDI l ⟨c.table,(bT iD c.args).1.s⟩ (by have:=hf.len;omega) (λt ht=>by have:=hf.ag t ht;omega) a.aq;have h:=Hf hf ⟨c.table,(bT iD c.args).1.s⟩;have f:=aET l c (bT iD c.args).1.s (cP l ⟨c.table,(bT iD c.args).1.s⟩) a om;have e:=cut l c.table (bT iD c.args).1.s a.len a.ag a.aq;have d:=aEU l c (cP l ⟨c.table,(bT iD c.args).1.s⟩).row a om om;have g:=MV (bT iD c.args).1.s;have j:(c.name==[98,117,114,110])=false:=hb
 repeat' first|refine cW rfl rfl ?_|refine .s1 ?_|(refine .q ?_ ?_<;>intro O)|refine aH rfl hk (aB _) ?_|refine aH rfl i (aB _) ?_|refine aH rfl b (aB _) ?_|refine aH rfl f (aB _) ?_|refine aH rfl e (aB _) ?_|refine aH rfl d (aB _) ?_|refine aH rfl g (aB _) ?_|fail
 all_goals first|refine aI rfl ?_|trace_state
 all_goals unfold f8
 all_goals (repeat' split)<;>first|exact qI|exact aG _|(exfalso;simp_all[vA,vB,kY];done)
structure AU where
 name:AG
 at_:Int
def AU.C(a:AU):AV := .agg [.str a.name, .int .i64 a.at_]
abbrev Ab:=List AU
def Ab.C(p:Ab):AV := .slice (p.map AU.C) .no
theorem AU.K(a:AU):a.C.K=true:=rfl
theorem dM(l:List AU):aA (l.map AU.C)=true:=bH AU.K l
theorem AU.fits(a:AU):Av.fits true 2 a.C=true:=rfl
def Hg(l:List AU):Av.eK true 2 (l.map AU.C)=true:=iJ AU.fits l
deriving instance DecidableEq for Ae
structure A0 where
 path:Ab
 e:Int
def A0.C(f:A0):AV := .agg [.slice (f.path.map AU.C) .no, .int .i64 f.e]
inductive Nd where
 |mk (kind:Int) (must:Bool) (v:AH) (keys:List AG) (l:List Nd)
structure AS where
 L:List AY
 F:List A0
 R:List (List Ae)
 c:Nat
def AS.ah(st:AS):AS:=⟨st.L,st.F,st.R,st.c+1⟩
def AS.bad(st:AS)(p:Ab)(e:Int):AS:=⟨st.L,st.F++[⟨p,e⟩],st.R,st.c⟩
def lK(n:Ae):List (List Ae)->List (List Ae)
 |[]=>[]
 |[r]=>if n∈r then [r] else [r++[n]]
 |r::q::l=>r::lK n (q::l)
def AS.read(st:AS)(n:Ae):AS:=⟨st.L,st.F,lK n st.R,st.c⟩
def mP(must:Bool):Nd := .mk 3 must bP [] []
def lL(must:Bool)(v:AH):Nd := .mk 0 must v [] []
abbrev Pl:=AG->Row->List Sl->Ab->Bool->AS->Nd×AS
def xB(s:AJ)(pl:Pl)(w:List Sl)(t:Ac)(p:Ab)(g:Bt)(st:AS):Nd×AS:=
 if g.e≠0 then (mP (isT t),st.bad p g.e)
 else if g.is=false then (if isT t=true then (mP true,st.bad p 9) else (lL false bP,st))
 else if g.row.aw∉jG s t.name then (mP (isT t),st.bad p 7)
 else pl g.row.aw g.row w p (isT t) st
mutual
def dD(s:AJ)(pl:Pl)(tb:AG)(w:List Sl):AH->Ac->Ab->AS->Nd×AS
 | .mk k n str l m,t,p,st0=>
  let st:=st0.ah
  if k=0 then (if isT t=true then (mP true,st.bad p 9) else (lL false bP,st))
  else if (fU t).2=true then
   (if k≠6 then (mP (isT t),st.bad p 7)
   else
    let q:=cC s pl tb w l (cB t) p 0 st
    (.mk 1 (isT t) bP [] q.1,q.2))
  else if g8 s t.name=false then
   (let o:=zX s t.name (.mk k n str l m)
   if o.2≠0 then (mP (isT t),st.bad p o.2) else (lL (isT t) o.1,st))
  else if k≠4 then (mP (isT t),st.bad p 7)
  else xB s pl w t p (cP st.L ⟨tb,str⟩) (st.read ⟨tb,str⟩)
def cC(s:AJ)(pl:Pl)(tb:AG)(w:List Sl):List AH->Ac->Ab->Nat->AS->List Nd×AS
 |[],_,_,_,st=>([],st)
 |v::l,t,p,i,st=>
  let r:=dD s pl tb w v t (p++[⟨[],i⟩]) st
  let q:=cC s pl tb w l t p (i+1) r.2
  (r.1::q.1,q.2)
end
def sl0:Sl := .mk 0 [] [] [] [] [] []
def o9(f:Ag)(b:BO)(args:List AF):BF:=⟨b.b7,b.table,b.col,f.t.name,args⟩
def b6(s:AJ)(d:AR)(A:List AF)(pl:Pl)(dox:Bool)(u:AG)(row:Row)(g:AT)(p:Ab)(st0:AS):Nd×AS:=
 let st:=st0.ah
 let x:=g.O.headD sl0
 let f:=(aK s u x.name).1
 if x.name=aY then (lL (isT f.t) (iF u),st)
 else
  let a:=dU s f.params x.args A
  if a.2≠0 then (mP (isT f.t),st.bad p a.2)
  else
   let b:=(ofB s u f).1
   if b.how=3 then
    (if dox=true then
     (let r:=f8 st.L (o9 f b a.1)
     let st1:AS:=⟨r.1,st.F,st.R++[[]],st.c⟩
     if r.2.2≠0 then (mP (isT f.t),st1.bad p r.2.2) else dD s pl b.table (bO g.O) r.2.1 f.t p st1)
    else (mP (isT f.t),st.bad p 14))
   else dD s pl b.table (bO g.O) (if b.how=2 then (bT b.arg a.1).1 else iC row b.col) f.t p st
def bX{α:Type}(fm:α->AS->Nd×AS):List α->AS->List Nd×AS
 |[],st=>([],st)
 |g::l,st=>
  let r:=fm g st
  let q:=bX fm l r.2
  (r.1::q.1,q.2)
def bV(s:AJ)(d:AR)(A:List AF):Nat->Bool->Pl
 |0,_=>λ_ _ _ _ must st=>(.mk 2 must bP [] [],⟨st.L,st.F,st.R,st.c+1000000000⟩)
 |n+1,dox=>λu row w p must st=>
  let gs:=bF s d A u w
  let q:=bX (λg st=>b6 s d A (bV s d A n false) dox u row g (p++[⟨g.key,0⟩]) st) gs st.ah
  (.mk 2 must bP (gs.map AT.key) q.1,q.2)
def aW(s:AJ)(o:Ak):AG:=if o.kind=1 then s.av else s.query
def cJ:Row:=⟨[],[],[],false⟩
mutual
def upM:Nd->AH×Bool
 | .mk k must v keys l=>
  let w:=if k=0 then v else if k=1 then (match upL l with|some vs => .mk 6 0 [] vs []|none=>bP)
   else if k=2 then (match upP keys l with|some ms => .mk 7 0 [] [] ms|none=>bP) else bP
  if w.kind=0/\must=true then (bP,false) else (w,true)
def upL:List Nd->Option (List AH)
 |[]=>some []
 |x::l=>if (upM x).2=true then (upL l).map ((upM x).1 :: ·) else none
def upP:List AG->List Nd->Option (List AF)
 |_,[]=>some []
 |keys,x::l=>if (upM x).2=true then (upP keys.tail l).map (AF.mk (keys.headD []) (upM x).1 :: ·) else none
end
def eD:List (List Ae)->List Ae
 |[]=>[]
 |[r]=>r
 |_::q::l=>eD (q::l)
theorem lH(n:Ae):∀R:List (List Ae),(lK n R).length=R.length
 |[]=>rfl
 |[r]=>by rw[lK];split<;>rfl
 |r::q::l=>by rw[lK,List.length_cons,lH n (q::l)];rfl
theorem uO(n:Ae):∀R:List (List Ae),R≠[]->eD (lK n R)=if n∈eD R then eD R else eD R++[n]
 |[],h=>absurd rfl h
 |[r],_=>by rw[lK,eD];split<;>rfl
 |r::q::l,_=>by
  have E:=uO n (q::l) Wb
  rw[lK]
  have:∀X:List (List Ae),X≠[]->eD (r::X)=eD X:=λX c=>by
   cases X with
   |nil=>exact absurd rfl c
   |cons a b=>rfl
  rw[this _ (by intro e;have:=congrArg List.length e;rw[lH]at this;simp at this),E]
  rfl
structure BT(L:List AY):Prop where
 a8:BN 1048576 L
 bl:∀t∈L,∀r∈t.ag,∀m∈r.aq,Ad m.v
structure At(st:AS):Prop where
 F:st.F.length<=st.c
 R0:st.R≠[]
 RL:(eD st.R).length<=st.c
 RN:st.R.length<=1048576
 T:BT st.L
structure BC(st st': AS):Prop where
 ok:At st'
 c:st.c<=st'.c
 L:st'.L=st.L
 R:st'.R.length=st.R.length
theorem BC.trans{a b c:AS}(h:BC a b)(k:BC b c):BC a c:=⟨k.ok,le_trans h.c k.c,k.L.trans h.L,k.R.trans h.R⟩
def Kz{a:AS}(h:At a):BC a a:=⟨h,le_refl _,rfl,rfl⟩
theorem At.ah{st:AS}(h:At st):BC st st.ah:=⟨⟨Nat.le_succ_of_le h.F,h.R0,Nat.le_succ_of_le h.RL,h.RN,h.T⟩,Nat.le_succ _,rfl,rfl⟩
def At.b5{st:AS}(h:At st)(p:Ab)(e:Int):BC st (st.ah.bad p e):=⟨⟨by
 show (st.F++[_]).length<=st.c+1
 rw[List.length_append]
 exact Nat.succ_le_succ h.F,h.R0,Nat.le_succ_of_le h.RL,h.RN,h.T⟩,Nat.le_succ _,rfl,rfl⟩
theorem At.b9{st:AS}(h:At st)(n:Ae):BC st (st.ah.read n):=⟨⟨Nat.le_succ_of_le h.F,by
 intro e
 have:=congrArg List.length e
 show False
 have a:(lK n st.R).length=0:=this
 rw[lH]at a
 exact h.R0 (List.eq_nil_of_length_eq_zero a),by
 show (eD (lK n st.R)).length<=st.c+1
 rw[uO n st.R h.R0]
 have:=h.RL
 split
 ·omega
 ·rw[List.length_append];simp only[List.length_cons,List.length_nil];omega,by
 show (lK n st.R).length<=_
 rw[lH];exact h.RN,h.T⟩,Nat.le_succ _,rfl,lH n st.R⟩
def At.cp{st:AS}(h:At st)(n:Ae)(p:Ab)(e:Int):BC st ((st.ah.read n).bad p e):=by
 have k:=h.b9 n;exact⟨⟨by show (st.F++[_]).length<=st.c+1;rw[List.length_append];exact Nat.succ_le_succ h.F,k.ok.R0,k.ok.RL,k.ok.RN,k.ok.T⟩,k.c,k.L,k.R⟩
def Aw(pl:Pl):Prop:=∀u row w p m st,At st->BC st (pl u row w p m st).2
mutual
theorem nY(s:AJ)(pl:Pl)(hpl:Aw pl)(tb:AG)(w:List Sl):∀(v:AH) (t:Ac) (p:Ab) (st:AS),At st->BC st (dD s pl tb w v t p st).2
 | .mk k n str l m,t,p,st,h=>by
  rw[dD]
  dsimp only
  split
  ·split
   ·exact h.b5 p 9
   ·exact h.ah
  split
  ·split
   ·exact h.b5 p 7
   ·exact h.ah.trans (sP s pl hpl tb w l (cB t) p 0 st.ah h.ah.ok)
  split
  ·split
   ·exact h.b5 p _
   ·exact h.ah
  split
  ·exact h.b5 p 7
  unfold xB
  split
  ·exact h.cp _ p _
  split
  ·split
   ·exact h.cp _ p 9
   ·exact h.b9 _
  split
  ·exact h.cp _ p 7
  ·exact(h.b9 _).trans (hpl _ _ _ _ _ _ (h.b9 _).ok)
theorem sP(s:AJ)(pl:Pl)(hpl:Aw pl)(tb:AG)(w:List Sl):∀(l:List AH) (t:Ac) (p:Ab) (i:Nat) (st:AS),At st->BC st (cC s pl tb w l t p i st).2
 |[],_,_,_,st,h=>by rw[cC];exact Kz h
 |v::l,t,p,i,st,h=>by
  rw[cC]
  have a:=nY s pl hpl tb w v t (p++[⟨[],i⟩]) st h
  exact a.trans (sP s pl hpl tb w l t p (i+1) _ a.ok)
end
def lI(s:AJ)(d:AR)(A:List AF)(pl:Pl)(hpl:Aw pl)(u:AG)(row:Row)(g:AT)(p:Ab)(st:AS)(h:At st):BC st (b6 s d A pl false u row g p st).2:=by
 unfold b6;dsimp only;split
 ·exact h.ah
 split
 ·exact h.b5 p _
 split
 ·exact h.b5 p 14
 ·exact h.ah.trans (nY s pl hpl _ _ _ _ _ _ h.ah.ok)
def xC{α:Type}(a:α->AS->Nd×AS)(hf:∀g st,At st->BC st (a g st).2):∀(l:List α) (st:AS),At st->BC st (bX a l st).2
 |[],st,h=>Kz h
 |g::l,st,h=>(hf g st h).trans (xC a hf l _ (hf g st h).ok)
def nZ(s:AJ)(d:AR)(A:List AF):∀n:Nat,Aw (bV s d A n false)
 |0=>λu row w p m st h=>⟨⟨le_trans h.F (Nat.le_add_right _ _),h.R0,le_trans h.RL (Nat.le_add_right _ _),h.RN,h.T⟩,Nat.le_add_right _ _,rfl,rfl⟩
 |n+1=>λu row w p m st h=>by
  rw[bV]
  exact h.ah.trans (xC _ (λg st h=>lI s d A _ (nZ s d A n) u row g _ st h) _ _ h.ah.ok)
structure BG where
 L:List AY
 n:Nat
abbrev BP:=AG->Row->List Sl->BG->BG
mutual
def oM(s:AJ)(pl:BP)(tb:AG)(w:List Sl):AH->Ac->BG->BG
 | .mk k n str l m,t,st=>
  if 400<st.n+1 then ⟨st.L,st.n+1⟩
  else if (fU t).2=true then lM s pl tb w l (cB t) ⟨st.L,st.n+1⟩
  else if k≠4\/g8 s t.name=false then ⟨st.L,st.n+1⟩
  else
   let g:=cP st.L ⟨tb,str⟩
   if g.is=true/\g.row.aw∈jG s t.name then pl g.row.aw g.row w ⟨st.L,st.n+1⟩ else ⟨st.L,st.n+1⟩
def lM(s:AJ)(pl:BP)(tb:AG)(w:List Sl):List AH->Ac->BG->BG
 |[],_,st=>st
 |v::l,t,st=>lM s pl tb w l t (oM s pl tb w v t st)
end
def kZ(s:AJ)(A:List AF)(pl:BP)(u:AG)(row:Row)(st:BG)(g:AT):BG:=
 let x:=g.O.headD sl0
 let f:=(aK s u x.name).1
 let b:=(ofB s u f).1
 let a:=dU s f.params x.args A
 if a.2≠0\/400<st.n+1 then ⟨st.L,st.n+1⟩
 else if b.how=3 then
  (let r:=f8 st.L (o9 f b a.1)
  oM s pl b.table (bO g.O) r.2.1 f.t ⟨r.1,st.n+1⟩)
 else oM s pl b.table (bO g.O) (if b.how=2 then (bT b.arg a.1).1 else iC row b.col) f.t ⟨st.L,st.n+1⟩
def oZ(s:AJ)(d:AR)(A:List AF):Nat->BP
 |0=>λ_ _ _ st=>st
 |N+1=>λu row w st=>if 400<st.n then st else (bF s d A u w).foldl (kZ s A (oZ s d A N) u row) ⟨st.L,st.n+1⟩
def BM(pl:BP):Prop:=∀u row w st,st.n<=(pl u row w st).n
mutual
theorem yC(s:AJ)(pl:BP)(hp:BM pl)(tb:AG)(w:List Sl):∀(v:AH) (t:Ac) (st:BG),st.n+1<=(oM s pl tb w v t st).n
 | .mk k n str l m,t,st=>by
  rw[oM];split
  ·simp_all
  split
  ·exact Fm s pl hp tb w l (cB t) ⟨st.L,st.n+1⟩
  split
  ·simp_all
  dsimp only;split
  ·exact hp _ _ _ ⟨st.L,st.n+1⟩
  ·simp_all
theorem Fm(s:AJ)(pl:BP)(hp:BM pl)(tb:AG)(w:List Sl):∀(l:List AH) (t:Ac) (st:BG),st.n<=(lM s pl tb w l t st).n
 |[],t,st=>by rw[lM];exact le_refl _
 |v::l,t,st=>by rw[lM];have a:=yC s pl hp tb w v t st;have b:=Fm s pl hp tb w l t (oM s pl tb w v t st);omega
end
def uP(s:AJ)(A:List AF)(pl:BP)(hp:BM pl)(u:AG)(row:Row)(st:BG)(g:AT):st.n+1<=(kZ s A pl u row st g).n:=by
 have b:∀tb w v t (a:BG),a.n=st.n+1->st.n+1<=(oM s pl tb w v t a).n:=λtb w v t a h=>by have:=yC s pl hp tb w v t a;omega
 unfold kZ;grind
def Fo(s:AJ)(A:List AF)(pl:BP)(hp:BM pl)(u:AG)(row:Row):∀(a:List AT) (st:BG),st.n+a.length<=(a.foldl (kZ s A pl u row) st).n
 |[],st=>le_refl _
 |g::a,st=>by have b:=uP s A pl hp u row st g;have c:=Fo s A pl hp u row a (kZ s A pl u row st g);grind
def qY(s:AJ)(d:AR)(A:List AF):∀N:Nat,BM (oZ s d A N)
 |0=>λ_ _ _ _=>le_refl _
 |N+1=>λu row w st=>by
  rw[oZ];dsimp only;split
  ·omega
  ·have:=Fo s A _ (qY s d A N) u row (bF s d A u w) ⟨st.L,st.n+1⟩;grind
def DZ(s:AJ)(u:AG):Prop:=eP s u [1]=true/\(s.av=[]\/u≠s.av)
def Ap(s:AJ)(n:AG):Prop:=∀x∈jG s n,DZ s x
def A2(s:AJ):Prop:=∀u,DZ s u->∀name,Ap s (aK s u name).1.t.name/\(ofB s u (aK s u name).1).1.how≠3
def BB(s:AJ)(pc:BP):Prop:=∀u row w ct,DZ s u->(pc u row w ct).L=ct.L
mutual
theorem uQ(s:AJ)(pc:BP)(hp:BB s pc)(tb:AG)(w:List Sl):∀(v:AH) (t:Ac) (a:BG),Ap s t.name->(oM s pc tb w v t a).L=a.L
 | .mk k n str l m,t,a,hr=>by
  rw[oM];split
  ·rfl
  split
  ·rename_i c;exact Nt s pc hp tb w l (cB t) ⟨a.L,a.n+1⟩ hr
  split
  ·rfl
  dsimp only;split
  ·rename_i c;exact hp _ _ _ ⟨a.L,a.n+1⟩ (hr _ c.2)
  ·rfl
theorem Nt(s:AJ)(pc:BP)(hp:BB s pc)(tb:AG)(w:List Sl):∀(l:List AH) (t:Ac) (a:BG),Ap s t.name->(lM s pc tb w l t a).L=a.L
 |[],t,a,_=>by rw[lM]
 |v::l,t,a,hr=>by rw[lM,Nt s pc hp tb w l t _ hr,uQ s pc hp tb w v t a hr]
end
theorem SY(s:AJ)(hs:A2 s)(A:List AF)(pc:BP)(hp:BB s pc)(u:AG)(row:Row)(ht:DZ s u)(a:BG)(g:AT):(kZ s A pc u row a g).L=a.L:=by
 unfold kZ;dsimp only;obtain⟨b,c⟩:=hs u ht (g.O.headD sl0).name;split
 ·rfl
 exact uQ s pc hp _ _ _ _ ⟨a.L,a.n+1⟩ b
theorem SZ(s:AJ)(hs:A2 s)(A:List AF)(pc:BP)(hp:BB s pc)(u:AG)(row:Row)(ht:DZ s u):∀(b:List AT) (a:BG),(b.foldl (kZ s A pc u row) a).L=a.L
 |[],a=>rfl
 |g::b,a=>by rw[List.foldl_cons,SZ s hs A pc hp u row ht b,SY s hs A pc hp u row ht a g]
def J2(s:AJ)(hs:A2 s)(d:AR)(A:List AF):∀N:Nat,BB s (oZ s d A N)
 |0=>λ_ _ _ _ _=>rfl
 |N+1=>λu row w a ht=>by
  rw[oZ];dsimp only;split
  ·rfl
  ·exact SZ s hs A _ (J2 s hs d A N) u row ht _ ⟨a.L,a.n+1⟩
def Bn(s:AJ)(N:Nat)(pl:Pl)(pc:BP):Prop:=∀u row w p m st ct,DZ s u->st.L=ct.L->401<=N+ct.n->(pc u row w ct).n<=400->(pl u row w p m st).2.c+ct.n<=st.c+(pc u row w ct).n
def CF(pl:Pl):Prop:=∀u row w p m st,(pl u row w p m st).2.L=st.L
mutual
theorem xD(s:AJ)(pl:Pl)(hpl:CF pl)(tb:AG)(w:List Sl):∀(v:AH) (t:Ac) (p:Ab) (st:AS),(dD s pl tb w v t p st).2.L=st.L
 | .mk k n str l m,t,p,st=>by
  rw[dD];dsimp only;split
  ·split<;>rfl
  split
  ·split
   ·rfl
   ·exact LD s pl hpl tb w l (cB t) p 0 st.ah
  split
  ·split<;>rfl
  split
  ·rfl
  unfold xB;split
  ·rfl
  split
  ·split<;>rfl
  split
  ·rfl
  ·exact hpl _ _ _ _ _ _
theorem LD(s:AJ)(pl:Pl)(hpl:CF pl)(tb:AG)(w:List Sl):∀(l:List AH) (t:Ac) (p:Ab) (i:Nat) (st:AS),(cC s pl tb w l t p i st).2.L=st.L
 |[],_,_,_,st=>by rw[cC]
 |v::l,t,p,i,st=>by rw[cC];rw[LD s pl hpl tb w l t p (i+1),xD s pl hpl tb w v t]
end
theorem LE(s:AJ)(d:AR)(A:List AF)(pl:Pl)(hpl:CF pl)(u:AG)(row:Row)(g:AT)(p:Ab)(st:AS):(b6 s d A pl false u row g p st).2.L=st.L:=by
 unfold b6;dsimp only;split
 ·rfl
 split
 ·rfl
 split
 ·rfl
 ·exact xD s pl hpl _ _ _ _ _ st.ah
theorem OX{α:Type}(a:α->AS->Nd×AS)(hf:∀g st,(a g st).2.L=st.L):∀(l:List α) (st:AS),(bX a l st).2.L=st.L
 |[],st=>rfl
 |g::l,st=>by rw[bX];rw[OX a hf l,hf]
def Hh(s:AJ)(d:AR)(A:List AF):∀n:Nat,CF (bV s d A n false)
 |0=>λ_ _ _ _ _ _=>rfl
 |n+1=>λu row w p m st=>OX _ (λg st=>LE s d A _ (Hh s d A n) u row g _ st) _ st.ah
mutual
theorem Do(s:AJ)(N:Nat)(pl:Pl)(pc:BP)(hup:BM pc)(hsame:BB s pc)(hL0:CF pl)(hpl:Bn s N pl pc)(tb:AG)(w:List Sl):∀(v:AH) (t:Ac) (p:Ab) (st:AS) (b:BG),Ap s t.name->st.L=b.L->401<=N+b.n->(oM s pc tb w v t b).n<=400->
  (dD s pl tb w v t p st).2.c+b.n<=st.c+(oM s pc tb w v t b).n
 | .mk k n str l m,t,p,st,b,hr,o,hM,O=>by
  have hu:=yC s pc hup tb w (.mk k n str l m) t b;have a:∀x:AS,x.c=st.c+1->x.c+b.n<=st.c+(oM s pc tb w (.mk k n str l m) t b).n:=λx hx=>om
  rw[dD];dsimp only;by_cases q:k=0
  ·rw[if_pos q];split
   ·exact a _ rfl
   ·exact a _ rfl
  rw[if_neg q];rw[oM]at O a ⊢;have r:¬ 400<b.n+1:=λc=>by rw[if_pos c]at O;dsimp only at O;omega
  rw[if_neg r]at O a ⊢;by_cases f:(fU t).2=true
  ·rw[if_pos f]at O a ⊢;split
   ·exact a _ rfl
   ·have:=LF s N pl pc hup hsame hL0 hpl tb w l (cB t) p 0 st.ah ⟨b.L,b.n+1⟩ hr o Wg O;have e:st.ah.c=st.c+1:=rfl;grind
  rw[if_neg f]at O a ⊢;rw[if_neg f];by_cases i:g8 s t.name=false
  ·rw[if_pos i];split
   ·exact a _ rfl
   ·exact a _ rfl
  rw[if_neg i];by_cases j:k≠4
  ·rw[if_pos j];exact a _ rfl
  rw[if_neg j];rw[if_neg (show ¬(k≠4\/g8 s t.name=false) from λh=>h.elim j i)]at O a ⊢;dsimp only at O a ⊢;have z:st.ah.L=b.L:=o;rw[z];unfold xB;generalize cP b.L ⟨tb,str⟩=g at *;split
  ·exact a _ rfl
  split
  ·split
   ·exact a _ rfl
   ·exact a _ rfl
  rename_i u;split
  ·exact a _ rfl
  rename_i y;have d:g.row.aw∈jG s t.name:=Decidable.not_not.1 y;rw[if_pos ⟨by simpa using u,d⟩]at O ⊢;have:=hpl g.row.aw g.row w p (isT t) (st.ah.read ⟨tb,str⟩) ⟨b.L,b.n+1⟩ (hr _ d) o Wg O;have e:(st.ah.read ⟨tb,str⟩).c=st.c+1:=rfl;dsimp only at this;omega
theorem LF(s:AJ)(N:Nat)(pl:Pl)(pc:BP)(hup:BM pc)(hsame:BB s pc)(hL0:CF pl)(hpl:Bn s N pl pc)(tb:AG)(w:List Sl):∀(l:List AH) (t:Ac) (p:Ab) (i:Nat) (st:AS) (a:BG),Ap s t.name->st.L=a.L->401<=N+a.n->(lM s pc tb w l t a).n<=400->
  (cC s pl tb w l t p i st).2.c+a.n<=st.c+(lM s pc tb w l t a).n
 |[],t,p,i,st,a,hr,b,d,O=>by rw[cC,lM];exact le_refl _
 |v::l,t,p,i,st,a,hr,b,d,O=>by
  rw[lM]at O ⊢;rw[cC];dsimp only;have e:=yC s pc hup tb w v t a;have f:=Fm s pc hup tb w l t (oM s pc tb w v t a);have g:=Do s N pl pc hup hsame hL0 hpl tb w v t (p++[⟨[],i⟩]) st a hr b d om;have e1:(dD s pl tb w v t (p++[⟨[],i⟩]) st).2.L=(oM s pc tb w v t a).L:=by rw[xD s pl hL0,uQ s pc hsame tb w v t a hr];exact b
  have h:=LF s N pl pc hup hsame hL0 hpl tb w l t p (i+1) _ _ hr e1 om O;omega
end
def S0(s:AJ)(hs:A2 s)(d:AR)(A:List AF)(N:Nat)(pl:Pl)(pc:BP)(hup:BM pc)(hsame:BB s pc)(hL0:CF pl)(hpl:Bn s N pl pc)(u:AG)(row:Row)(ht:DZ s u)(g:AT)(p:Ab)(st:AS)(a:BG)(m:st.L=a.L)(o:401<=N+a.n)
  (O:(kZ s A pc u row a g).n<=400):(b6 s d A pl false u row g p st).2.c+a.n<=st.c+(kZ s A pc u row a g).n:=by
 have q:=uP s A pc hup u row a g;have b:∀x:AS,x.c=st.c+1->x.c+a.n<=st.c+(kZ s A pc u row a g).n:=λx hx=>om
 obtain⟨l,i⟩:=hs u ht (g.O.headD sl0).name;unfold b6;dsimp only;split
 ·exact b _ rfl
 split
 ·exact b _ rfl
 rename_i k;unfold kZ at O b ⊢;have j:¬ 400<a.n+1:=λc=>Zb
 have f:¬((dU s (aK s u (g.O.headD sl0).name).1.params (g.O.headD sl0).args A).2≠0\/400<a.n+1):=λh=>h.elim k j
 rw[if_neg f,if_neg i]at O;rw[if_neg f,if_neg i];have:=Do s N pl pc hup hsame hL0 hpl _ _ _ _ p st.ah ⟨a.L,a.n+1⟩ l m Wg O;have e:st.ah.c=st.c+1:=rfl;grind
def LG(s:AJ)(hs:A2 s)(d:AR)(A:List AF)(N:Nat)(pl:Pl)(pc:BP)(hup:BM pc)(hsame:BB s pc)(hL0:CF pl)(hpl:Bn s N pl pc)(u:AG)(row:Row)(ht:DZ s u)(e:AT->Ab):∀(b:List AT) (st:AS) (a:BG),st.L=a.L->401<=N+a.n->
  (b.foldl (kZ s A pc u row) a).n<=400->(bX (λg st=>b6 s d A pl false u row g (e g) st) b st).2.c+a.n<=st.c+(b.foldl (kZ s A pc u row) a).n
 |[],st,a,_,_,_=>le_refl _
 |g::b,st,a,f,h,O=>by rw[List.foldl_cons]at O ⊢;rw[bX];dsimp only;have i:=uP s A pc hup u row a g;have j:=Fo s A pc hup u row b (kZ s A pc u row a g);have k:=S0 s hs d A N pl pc hup hsame hL0 hpl u row ht g (e g) st a f h om;have l:=LG s hs d A N pl pc hup hsame hL0 hpl u row ht e b (b6 s d A pl false u row g (e g) st).2 (kZ s A pc u row a g) (by rw[LE s d A pl hL0,SY s hs A pc hsame u row ht];exact f) om O;omega
def Hi(s:AJ)(hs:A2 s)(d:AR)(A:List AF):∀N:Nat,Bn s N (bV s d A N false) (oZ s d A N)
 |0=>λu row w p m st a ht b f O=>by have:(oZ s d A 0 u row w a).n=a.n:=rfl;omega
 |N+1=>λu row w p m st a ht b f O=>by
  have e:(bV s d A (N+1) false u row w p m st).2=(bX (λg st=>b6 s d A (bV s d A N false) false u row g (p++[⟨g.key,0⟩]) st) (bF s d A u w) st.ah).2:=rfl;rw[e];rw[oZ]at O ⊢;dsimp only at O ⊢;split at O
  ·omega
  rename_i c;rw[if_neg c];have:=LG s hs d A N _ _ (qY s d A N) (J2 s hs d A N) (Hh s d A N) (Hi s hs d A N) u row ht (λg=>p++[⟨g.key,0⟩]) (bF s d A u w) st.ah ⟨a.L,a.n+1⟩ b Wg O;have e:st.ah.c=st.c+1:=rfl;grind
def Hj{s:AJ}{k:Int}(h:eP s n [k]=true):∃d,dW s n=some d/\d.kind=k:=by
 unfold eP bN at h;cases e:dW s n with
 |none=>rw[e]at h;simp at h
 |some d=>rw[e]at h;exact⟨d,rfl,Wu⟩
def Hk{s:AJ}{d:Ah}(h:dW s n=some d):eP s n [d.kind]=true:=by unfold eP bN;rw[h];simp
structure BH(s:AJ):Prop where
 dc:∀e∈s.ai,dW s e.name=some e
 nil:dW s []=none
 roots:wY s=true
 c9:∀d∈s.ai,d.kind=1->∀f∈d.fields,(ofB s d.name f).2=true
def LH{s:AJ}(h:BH s){x:AG}(hx:x∈jG s n):eP s x [1]=true:=by
 obtain⟨d,b,a|a|a⟩:=G5.1 hx
 ·have:=Hk b;rw[a.1]at this;rw[a.2];exact this
 ·obtain⟨_,e,he,c,_,rfl⟩:=a;have:=Hk (h.dc _ he)
  rwa [c]at this
 ·exact a.2.2
def J3{s:AJ}(h:dW s n=none):Ap s n:=λx hx=>by
 obtain⟨d,a,_⟩:=G5.1 hx
 rw[h]at a;cases a
def yD{s:AJ}(h:dT s n=true):Ap s n:=λx hx=>by
 obtain⟨d,a,b⟩:=G5.1 hx
 exfalso
 unfold dT eP bN at h
 rw[a]at h
 simp only[Bool.true_and,decide_eq_true_eq,List.mem_cons,List.mem_nil_iff,or_false]at h
 omega
def oN{s:AJ}(h:BH s):A2 s:=by
 have v:=h.c9;intro u ht name;obtain⟨d,hf,hk⟩:=Hj ht.1;obtain⟨w,j⟩:=G6 hf om;have g:∀f:Ag,f.name=aY->(ofB s u f).1.how≠3:=λf e=>by unfold ofB;rw[if_neg (λc=>c.2.1 e)];decide
 have hz:(ofB s u uZ).1.how≠3:=by
  unfold ofB;split
  ·decide
  ·decide
 unfold aK;cases e:jW s u name with
 |none=>exact⟨J3 h.nil,hz⟩
 |some f=>
  dsimp only;unfold jW at e;split at e
  ·rename_i c;cases e;refine⟨yD ?_,g _ c.1⟩;unfold dT eP bN dW;rw[if_pos (show lG dC=true by decide)];rfl
  ·split at e
   case isFalse=>cases e
   have k:(bN s u).1=d:=by unfold bN;rw[hf]
   rw[k]at e;have l:f∈d.fields:=List.mem_of_find?_eq_some e;have m:=v d w hk f l;rw[j]at m;have i:fY s u=false:=by
    unfold fY;rcases ht.2 with q|q
    ·simp[q]
    ·simp[q]
   obtain⟨n,r,z⟩:=G9 m;have b:(ofB s u f).1.how≠3:=λc=>by rw[i,c]at n;simp at n
   refine⟨?_,b⟩;obtain⟨o,p,a⟩:=Fk m;obtain⟨t,_,_⟩:=G8 o;rw[<-p]at t;by_cases h0:(ofB s u f).1.how=0
   ·exact yD (r h0)
   ·unfold DX at a;rw[if_neg h0,if_neg b]at a;unfold m8 at a;simp only[and_eq_true,Bool.not_eq_true', bne_iff_ne,ne_eq,Bool.and_eq_false_iff,decide_eq_false_iff_not]at a;intro x hx;refine⟨LH h hx, ?_⟩;rcases a.1.2 with q|q
    ·left;simpa using q
    ·right;intro y;exact q (y▸hx)
def D0{s:AJ}(h:BH s):DZ s s.query:=by
 have a:=h.roots;unfold wY at a;simp only[and_eq_true,Bool.or_eq_true,beq_iff_eq,bne_iff_ne,ne_eq]at a;refine⟨a.1, ?_⟩;rcases a.2 with q|q
 ·exact .inl q
 ·exact .inr λe=>q.1 e.symm
def U2{s:AJ}(h:BH s)(b:s.av≠[]):eP s s.av [1]=true:=by
 have a:=h.roots;unfold wY at a;simp only[and_eq_true,Bool.or_eq_true,beq_iff_eq,bne_iff_ne,ne_eq]at a;rcases a.2 with q|q
 ·exact absurd q b
 ·exact q.2
structure Be(s:AJ)(u:AG):Prop where
 calm:∀name,Ap s (aK s u name).1.t.name
 tn:(ofB s u (aK s u aY).1).1.how≠3
section
variable (s:AJ) (d:AR) (A:List AF) (N:Nat) (pl:Pl) (pc:BP) (hup:BM pc) (hsame:BB s pc) (hL0:CF pl) (hpl:Bn s N pl pc) (u:AG) (row:Row) (ht:Be s u)
include hup hsame hL0 hpl ht
def S1(g:AT)(p:Ab)(st:AS)(a:BG)(f:st.L=a.L)(y:401<=N+a.n)(O:(kZ s A pc u row a g).n<=400):
  (b6 s d A pl true u row g p st).2.c+a.n<=st.c+(kZ s A pc u row a g).n/\(b6 s d A pl true u row g p st).2.L=(kZ s A pc u row a g).L:=by
 have z:=uP s A pc hup u row a g;have b:∀x:AS,x.c=st.c+1->x.c+a.n<=st.c+(kZ s A pc u row a g).n:=λx hx=>om
 have i:=ht.calm (g.O.headD sl0).name;unfold b6;dsimp only;by_cases l:(g.O.headD sl0).name=aY
 ·rw[if_pos l];refine⟨b _ rfl, ?_⟩;unfold kZ;dsimp only;have:=ht.tn;rw[<-l]at this;split
  ·exact f
  rw[uQ s pc hsame _ _ _ _ ⟨a.L,a.n+1⟩ i];exact f
 rw[if_neg l];by_cases k:(dU s (aK s u (g.O.headD sl0).name).1.params (g.O.headD sl0).args A).2≠0
 ·rw[if_pos k];refine⟨b _ rfl, ?_⟩;unfold kZ;dsimp only;rw[if_pos (.inl k)];exact f
 rw[if_neg k];unfold kZ at O b ⊢;dsimp only at O b ⊢;have q:¬ 400<a.n+1:=λc=>Zb
 have v:¬((dU s (aK s u (g.O.headD sl0).name).1.params (g.O.headD sl0).args A).2≠0\/400<a.n+1):=λh=>h.elim k q
 rw[if_neg v]at O b ⊢;have e:st.ah.c=st.c+1:=rfl;have w:st.ah.L=a.L:=f;by_cases j:(ofB s u (aK s u (g.O.headD sl0).name).1).1.how=3
 ·rw[if_pos j]at O b ⊢;rw[if_pos j,if_pos rfl,w];generalize f8 a.L _=r at *
  have o:=uQ s pc hsame (ofB s u (aK s u (g.O.headD sl0).name).1).1.table (bO g.O) r.2.1 (aK s u (g.O.headD sl0).name).1.t ⟨r.1,a.n+1⟩ i;by_cases m:r.2.2≠0
  ·rw[if_pos m];exact⟨b _ rfl,o.symm⟩
  ·rw[if_neg m];have:=Do s N pl pc hup hsame hL0 hpl _ _ _ _ p ⟨r.1,st.ah.F,st.ah.R++[[]],st.ah.c⟩ ⟨r.1,a.n+1⟩ i rfl Wg O;dsimp only at this;refine⟨om, ?_⟩;rw[xD s pl hL0,o]
 ·rw[if_neg j]at O b ⊢;rw[if_neg j];have:=Do s N pl pc hup hsame hL0 hpl _ _ _ _ p st.ah ⟨a.L,a.n+1⟩ i f Wg O;dsimp only at this;refine⟨om, ?_⟩;rw[xD s pl hL0,uQ s pc hsame _ _ _ _ ⟨a.L,a.n+1⟩ i];exact f
def IR(e:AT->Ab):∀(b:List AT) (st:AS) (a:BG),st.L=a.L->401<=N+a.n->
  (b.foldl (kZ s A pc u row) a).n<=400->(bX (λg st=>b6 s d A pl true u row g (e g) st) b st).2.c+a.n<=st.c+(b.foldl (kZ s A pc u row) a).n
 |[],st,a,_,_,_=>le_refl _
 |g::b,st,a,f,h,O=>by
  rw[List.foldl_cons]at O ⊢
  rw[bX]
  dsimp only
  have i:=uP s A pc hup u row a g
  have j:=Fo s A pc hup u row b (kZ s A pc u row a g)
  obtain⟨k,h3⟩:=S1 s d A N pl pc hup hsame hL0 hpl u row ht g (e g) st a f h om
  have l:=IR e b (b6 s d A pl true u row g (e g) st).2 (kZ s A pc u row a g) h3 om O
  omega
end
def LI(s:AJ)(hs:A2 s)(d:AR)(A:List AF)(N:Nat)(u:AG)(row:Row)(w:List Sl)(p:Ab)(m:Bool)(st:AS)(a:BG)(ht:Be s u)(b:st.L=a.L)(f:401<=N+1+a.n)(O:(oZ s d A (N+1) u row w a).n<=400):
  (bV s d A (N+1) true u row w p m st).2.c+a.n<=st.c+(oZ s d A (N+1) u row w a).n:=by
 have e:(bV s d A (N+1) true u row w p m st).2=(bX (λg st=>b6 s d A (bV s d A N false) true u row g (p++[⟨g.key,0⟩]) st) (bF s d A u w) st.ah).2:=rfl;rw[e];rw[oZ]at O ⊢;dsimp only at O ⊢;split at O
 ·omega
 rename_i c;rw[if_neg c];have:=IR s d A N _ _ (qY s d A N) (J2 s hs d A N) (Hh s d A N) (Hi s hs d A N) u row ht (λg=>p++[⟨g.key,0⟩]) (bF s d A u w) st.ah ⟨a.L,a.n+1⟩ b Wg O;have e:st.ah.c=st.c+1:=rfl;dsimp only at this;omega
def Qp{s:AJ}(hn:BH s)(h:m8 s n=true):Ap s n:=λx hx=>by
 unfold m8 at h
 simp only[and_eq_true,Bool.not_eq_true', bne_iff_ne,ne_eq,Bool.and_eq_false_iff,decide_eq_false_iff_not]at h
 refine⟨LH hn hx, ?_⟩
 rcases h.2 with q|q
 ·left;simpa using q
 ·right;intro a;exact q (a▸hx)
def J4{s:AJ}(h:BH s)(a:s.av≠[]):Be s s.av/\∀name,name≠aY->(ofB s s.av (aK s s.av name).1).1.how≠3->(aK s s.av name).1=uZ:=by
 have p:=h.c9;obtain⟨d,hf,hk⟩:=Hj (U2 h a);obtain⟨r,j⟩:=G6 hf om;have b:∀name,Ap s (aK s s.av name).1.t.name/\(name≠aY->(ofB s s.av (aK s s.av name).1).1.how≠3->(aK s s.av name).1=uZ):=λname=>by
  unfold aK;cases e:jW s s.av name with
  |none=>exact⟨J3 h.nil,λ_ _=>rfl⟩
  |some f=>
   dsimp only;unfold jW at e;split at e
   ·rename_i c;cases e;refine⟨yD ?_,λq=>absurd c.1 q⟩;unfold dT eP bN dW;rw[if_pos (show lG dC=true by decide)];rfl
   ·split at e
    case isFalse=>cases e
    have k:(bN s s.av).1=d:=by unfold bN;rw[hf]
    rw[k]at e;have l:f∈d.fields:=List.mem_of_find?_eq_some e;have n:=p d r hk f l;rw[j]at n;have i:fY s s.av=true:=by unfold fY;simp[a]
    obtain⟨o,w,x⟩:=G9 n;have h3:(ofB s s.av f).1.how=3:=by rw[i]at o;simpa using o
    obtain⟨u,v,g⟩:=Fk n;refine⟨?_,λ_ q=>absurd h3 q⟩;unfold DX at g;rw[if_neg om,if_pos h3]at g;simp only[and_eq_true,Bool.or_eq_true]at g;rcases g.2.1 with q|q
    ·exact yD q
    ·exact Qp h q
 refine⟨⟨λname=>(b name).1, ?_⟩,λname=>(b name).2⟩;have m:(aK s s.av aY).1.name=aY\/(aK s s.av aY).1=uZ:=by
  unfold aK;cases e:jW s s.av aY with
  |none=>exact .inr rfl
  |some f=>
   left;unfold jW at e;split at e
   ·cases e;rfl
   ·split at e
    ·simpa using List.find?_some e
    ·cases e
 rcases m with q|q
 ·unfold ofB;rw[if_neg (λc=>c.2.1 q)];decide
 ·rw[q];unfold ofB;split
  ·decide
  ·decide
end Go.Proofs.YtimbiifcnhgcoaaGreatDoor
namespace Go.Av
open Go
section
variable [AL]
variable {P:Program} [Lay P] {A:Array Oper} {G:Bool} {K:AX->AE->St->Prop} {C:List Oper} {I:List Aj} {s:AE} {H:St}
variable {d:Tmp} {R:TypeId} {D:String} {S:Array Edge}
end
section
variable [AL]
variable {P:Program} {A:Array Oper} {G:Bool} {K:AX->AE->St->Prop} {C:List Oper} {I:List Aj} {s:AE} {H:St} {R:TypeId} {D:String} {S:Array Edge}
def dR{d:Option Tmp}{f:FuncId}{J b:List AV}{v:AV}{c:St}(ha:jZ s args.toList some=some J)
  (hp:AI P f b H (λe Y=>e = .ret v/\Y=c)) (hw:AA J b)
  (k:AD P A G K C (.all::I) (iG d v s) c):AD P A G K (⟨d, .call ⟨.value (.func f),args,p⟩,R,D,S,none⟩::C) I s H:=
 bU (t := .all) (Y:=c) rfl (by
  intro g w a next Q m n hn
  have i:args.toList.map (ev s)=J:=Option.some.inj (gV _ _ _ ha)
  have j:=jC (g:=g) (w:=w) (s:=s) (a:=a) args.toList (λx hx=>n x Wq)
  rw[i]at j
  have h:AM g w b (args.map a.eval).toList:=by
   rw[Array.toList_map]
   exact hw _ _ _ j
  unfold Oper.wp
  rw[j9 hp.1 a w]
  show Calls P f (args.map a.eval) w _
  refine(hp.2 _ w _ m h).mono ?_
  rintro e w' ⟨l,Y,x,h1,h2,h3,rfl,rfl⟩
  obtain⟨u,rfl,o⟩:=h3
  exact hn u w' l h1 h2 o) k
def k9{H:St}{k:Nat}{t:Tk}(ht:t.fresh=true)(hk:dN H.T=some k)(a:kP H.T (.len 0) some=some T'):AK H (.slice [] t) ⟨H.B,T'⟩ (.slice [] (.own k z)):=λg w v X hr=>by
 obtain⟨g', e1,c,b⟩:=rI (agg:=true) (z:=z) ht rfl X hr
 rw[dI hk]at b
 refine⟨g', e1, ?_,b⟩
 rw[<-Option.some.inj (eQ _ _ _ _ a)];exact c
def S2{d:Tmp}{k:Nat}{v:AV}(hx:ev? s x=some v)(hf:fits true z v=true)(hk:dN H.T=some k)(a0:kP H.T (.aa [v]) some=some T')
  (kk:AD P A G K C (.tk::I) ((d, .ao k z 1 0 0)::s) ⟨H.B,T'⟩):AD P A G K (⟨some d, .box T x,R,D,S,none⟩::C) I s H:=
 bU (t := .tk) (Y:=⟨H.B,T'⟩) rfl ⟨rfl,λB=>by
  intro g w a next Q hI ho hn
  have y:=op1 hx We ho
  obtain⟨c,_,_,n⟩:=nJ hf y
  generalize a6:a.eval x=zv at y c n
  have a1:H.T++[.aa [v]]=T':= Option.some.inj (eQ _ _ _ _ a0)
  have m:H.T.length=k:=dI hk
  have f:g.tk[k]? =none:=by
   have a4:g.tk.length=H.T.length:=hI.lenT
   rw[<-m, <-a4];simp
  have i:∀b o,(⟨some ⟨w.heap.size,0,none⟩,1,1,z,0⟩:A8).a1 b o->b=w.heap.size/\o<zv.cells.size:=by
   rintro b o ⟨p,hp,rfl,e1,q⟩
   cases hp
   refine⟨rfl, ?_⟩
   rw[c]
   simpa using q
  obtain⟨g', e1,q,e3,_⟩:=Ks (k:=k) (r':= ⟨some ⟨w.heap.size,0,none⟩,1,1,z,0⟩) (t' := .aa [v]) (J:=λ_ _=>False) hI (w':= dO w (.cells zv.cells T)) (.inr ⟨m.symm,rfl⟩)
   XJ rfl rfl rfl (λb hb _=>cQ w _ hb) (λb o hb _=>(cI (cQ w _ hb)).1) (λb o hb=>(cI (cQ w _ hb)).2) (λ_ _ h=>h.elim)
   (λb o ho=>by
    obtain⟨rfl,h2⟩:=i b o ho
    exact⟨⟨zv.cells[o],(dV w zv.cells T o).trans (Array.getElem?_eq_getElem h2)⟩,j5 w zv.cells T o, .inl (le_refl _)⟩)
   (λr hr=>by rw[f]at hr;cases hr)
   (λg' a3=>⟨rfl,rfl,le_refl _,[zv],⟨zv,[],rfl,Aa.mono a3 _ _ y,rfl⟩,(λe=>by cases e),(λV hV=>by rw[mem_singleton.1 hV];exact c),(λp hp=>by
    cases hp
    refine⟨.inl rfl,fG (λV hV=>by rw[mem_singleton.1 hV];exact c) λj u hj=> ?_⟩
    have l:zv.cells.toList[j]? =some u:=by simpa [flat]using hj
    refine⟨trivial, ?_,n u (List.mem_of_getElem? l)⟩
    show (dO w (.cells zv.cells T)).cell? ⟨w.heap.size,0+j,none⟩=some u
    rw[zero_add]
    exact(dV w zv.cells T j).trans XR)⟩)
  unfold Oper.wp
  simp only[execOp,Instr.box,newVar,newRow,newObj,Sem.run_bind,Result.andThen,Sem.run,a6]
  exact hn _ _ _ e1 (a1▸q) ⟨w.heap.size,0,rfl,om,_,e3,rfl,le_refl _,λ_=>⟨rfl,_,rfl,rfl,rfl,Wb⟩⟩⟩ kk
def fT{d:Tmp}{k n j c:Nat}(hx:ev? s x=some (.ao k z n j c))(l:AD P A G K C (.pure::I) ((d, .ao k z n j c)::s) H):AD P A G K (⟨some d, .nilCheck x,R,D,S,none⟩::C) I s H:=
 bU rfl (eY λg w a i=>by
  have f:=op1 hx We i
  obtain⟨b,o,e,h⟩:=f
  exact⟨_,YU,⟨b,o,rfl,h⟩⟩) l
def b7{d:Tmp}{i c:Nat}(hx:ev? s x=some (.ptr i c))(k:AD P A G K C (.pure::I) ((d, .ptr i c)::s) H):AD P A G K (⟨some d, .nilCheck x,R,D,S,none⟩::C) I s H:=
 bU rfl (eY λg w a f=>by
  obtain⟨b,hb,e⟩:=op1 hx We f
  exact⟨_,YU,⟨b,hb,rfl⟩⟩) k
def aBE{d:Tmp}{v:AV}(hx:ev? s x=some (.ac v))(i:AD P A G K C (.pure::I) ((d, .ac v)::s) H):AD P A G K (⟨some d, .nilCheck x,R,D,S,none⟩::C) I s H:=
 bU rfl (eY λg w a h=>by
  have c:=op1 hx We h
  obtain⟨b,o,V,e,f⟩:=c
  exact⟨_,YU,⟨b,o,V,rfl,f⟩⟩) i
def nA{H Y:St}{x:AV}{t:Tk}(h:AK H x Y y):AK H (.slice (xs++[x]) t) Y (.slice (xs++[y]) t):=λg w v o hr=>by
 obtain⟨a,cap,sz,Vs,e,l,m,h3,h4,n,i⟩:=hr
 have f:∀(xs:List AV) (Vs:List Value),AM g w (xs++[x]) Vs->∃V1 v1,Vs=V1++[v1]/\AM g w xs V1/\Aa g w x v1:=by
  intro xs
  induction xs with
  |nil=>rintro Vs ⟨v,r,rfl,b,d⟩;rw[show r=[] from d];exact⟨[],v,rfl,rfl,b⟩
  |cons c xs E=>
   rintro Vs ⟨v,r,rfl,b,d⟩
   obtain⟨V1,v1,rfl,q,u⟩:=E r d
   exact⟨v::V1,v1,rfl,⟨v,V1,rfl,b,q⟩,u⟩
 obtain⟨V1,v1,rfl,b,d⟩:=f xs Vs h4
 obtain⟨g', e1,j,k⟩:=h g w v1 o d
 exact⟨g', e1,j,a,cap,sz,V1++[v1],e,l,m,h3.mono e1.le,(AM.mono e1.le _ _ b).append (AM.cons k AM.nil),n,λp hp=>⟨(i p hp).1,(i p hp).2.mono e1.le⟩⟩
end
variable [AL]
theorem Qq(a l c:List α)(O:a.length<=c.length):upd (a++l) (List.range a.length) c=c.take a.length++l:=by
 apply List.ext_getElem?;intro j;by_cases hj:j<a.length
 ·have b:=Cn (a++l) (List.range a.length) c j j nodup_range (λi X=>by rw[List.mem_range]at X;rw[List.length_append];omega) (by rw[List.length_range];exact O) (by rw[List.getElem?_range hj]);grind
 ·have b:=Cm (a++l) (List.range a.length) c j (λh=>hj (List.mem_range.1 h));grind
def oO(a l c:List α)(h:l=[]\/c.length=a.length)(O:a.length<=c.length):eZ (a++l) (List.range a.length) c=c++l:=by
 unfold eZ;rw[Qq a l c O,List.length_range];rcases h with rfl|h
 ·simp
 ·grind
def sQ{n m k:Nat}(h:m=0\/k<n):emb (n+m) (List.range n) k=k:=by grind[emb]
theorem n8{Q N:Nat->Nat}{n m:Nat}(hb:∀i,i<n->Q i=i)(ht:∀k,k<m->N k=k):∀B:List Ob,aQ n m B=true->B.map (Ob.af Q N)=B
 |[],_=>rfl
 |o::B,h=>by
  rw[aQ,and_eq_true]at h;rw[List.map_cons,n8 hb ht B h.2];congr 1;cases o with
  |cells cs=>rw[Ob.af,dX hb ht cs h.1]
  |map es=>
   rw[Ob.af];congr 1;have:∀es:List (AV×AV),oS n m es=true->Pg Q N es=es:=by
    intro es;induction es with
    |nil=>intro _;rfl
    |cons p es E=>intro h;obtain⟨k,v⟩:=p;rw[oS,and_eq_true,and_eq_true]at h;rw[Pg,iK hb ht k h.1.1,iK hb ht v h.1.2,E h.2]
   exact this es h.1
  |iter s p=>rfl
section
variable {P:Program} {A:Array Oper} {G:Bool} {K:AX->AE->St->Prop} {C:List Oper} {I:List Aj} {s:AE} {H:St} {R:TypeId} {D:String} {S:Array Edge}
def iI{d:Option Tmp}{f:FuncId}{J:List AV}{T0 T:List Tok}{v:AV}(ha:jZ s args.toList some=some J)
  (hp:AI P f a ⟨B0,T0⟩ (λe x=>e = .ret v/\x=⟨B1,T1⟩)) (hσ:H=⟨B0++B,T0++T⟩) (y:B=[]\/B1.length=B0.length) (hT:T=[]\/T1.length=T0.length) (q:B0.length<=B1.length) (r:T0.length<=T1.length)
  (m:aQ B0.length T0.length B0=true) (o:aL B0.length T0.length T0=true) (u:aQ B1.length T1.length B1=true) (w:aL B1.length T1.length T1=true)
  (n:aE B0.length T0.length a=true) (z:v.ab B1.length T1.length=true) (hw:AA J a)
  (k:AD P A G K C (.all::I) (iG d v s) ⟨B1++B,T1++T⟩):AD P A G K (⟨d, .call ⟨.value (.func f),args,p⟩,R,D,S,none⟩::C) I s H:=by
 subst hσ;have g:∀i,i<B1.length->emb (B0.length+B.length) (List.range B0.length) i=i:=λi X=>sQ (y.imp (λh=>by rw[h];rfl) (λh=>om))
 have l:∀i,i<T1.length->emb (T0.length+T.length) (List.range T0.length) i=i:=λi X=>sQ (hT.imp (λh=>by rw[h];rfl) (λh=>om))
 have b:∀i,i<B0.length->emb (B0.length+B.length) (List.range B0.length) i=i:=λi X=>g i om
 have c:∀i,i<T0.length->emb (T0.length+T.length) (List.range T0.length) i=i:=λi X=>l i om
 have e0:=n8 b c B0 m;have e1:=mF b c T0 o;refine lS (nB:=B0.length+B.length) (nT:=T0.length+T.length) (List.range B0.length) (List.range T0.length) ha hp Wb Wb ⟨nodup_range,λi X=>WW⟩ ⟨nodup_range,λi X=>WW⟩
  Wb Wb (λj i ob h ho=> ?_) (λj i t h ht=> ?_) YS YQ YR
  (by rw[dX b c a n];exact hw) (iK g l v z) (B':= B1++B) (T':= T1++T) ?_ ?_ k
 ·grind
 ·grind
 ·rw[n8 g l B1 u];exact oO B0 B B1 y q
 ·rw[mF g l T1 w];exact oO T0 T T1 hT r
def dE{d:Option Tmp}{f:FuncId}{J:List AV}{T0:List Tok}{v:AV}(ha:jZ s args.toList some=some J)
  (hp:AI P f a ⟨B0,T0⟩ (λe l=>e = .ret v/\l=⟨B1,T1⟩)) (hσ:H=⟨B0++B,T0⟩) (m:B1.length=B0.length) (b:T0.length<=T1.length)
  (c:aQ B0.length T0.length B0=true) (i:aL B0.length T0.length T0=true) (g:aQ B1.length T1.length B1=true) (j:aL B1.length T1.length T1=true)
  (h:aE B0.length T0.length a=true) (n:v.ab B1.length T1.length=true) (hw:AA J a)
  (k:AD P A G K C (.all::I) (iG d v s) ⟨B1++B,T1⟩):AD P A G K (⟨d, .call ⟨.value (.func f),args,p⟩,R,D,S,none⟩::C) I s H:=
 iI (B:=B) (T:=[]) ha hp (by rw[List.append_nil];exact hσ) (.inr m) (.inl rfl) om b c i g j h n hw (by rw[List.append_nil];exact k)
def Hl{d:Option Tmp}{f:FuncId}{fs cs J b:List AV}{B': List Ob}{T0 T': List Tok}{v0 v:AV}{nT:Nat}(c ts:List Nat)(hx:ev? s x=some (.fn (.func f) fs cs))(ha:jZ s args.toList some=some J)
  (hp:AI P f b ⟨B0,T0⟩ (λe l=>e = .ret v0/\l=⟨B1,T1⟩)) (a4:H.B.length=nB) (a5:H.T.length=nT) (h:Bp nB c) (j:Bp nT ts) (n:B0.length=c.length) (q:T0.length=ts.length)
  (a6:∀(k i:Nat) (ob:Ob),c[k]? =some i->B0[k]? =some ob->H.B[i]? =some (ob.af (emb nB c) (emb nT ts))) (a7:∀(k i:Nat) (t:Tok),ts[k]? =some i->T0[k]? =some t->H.T[i]? =some (t.af (emb nB c) (emb nT ts)))
  (a1:aQ c.length ts.length B0=true) (a2:aL c.length ts.length T0=true) (a3:aE c.length ts.length b=true) (hw:AA (fs++J++cs) (aX (emb nB c) (emb nT ts) b))
  (hv:v0.af (emb nB c) (emb nT ts)=v) (m:eZ H.B c (B1.map (Ob.af (emb nB c) (emb nT ts)))=B') (o:eZ H.T ts (T1.map (Tok.af (emb nB c) (emb nT ts)))=T')
  (k:AD P A G K C (.all::I) (iG d v s) ⟨B', T'⟩):AD P A G K (⟨d, .call ⟨.value x,args,p⟩,R,D,S,none⟩::C) I s H:=
 bU (t := .all) (Y:=⟨B', T'⟩) rfl (by
  intro g w a next Q hI ho hn
  subst a4;subst a5
  have a8:args.toList.map (ev s)=J:=Option.some.inj (gV _ _ _ ha)
  obtain⟨vs,us,z,r,y⟩:=op1 hx Wm ho
  have hl:=jC (g:=g) (w:=w) (s:=s) (a:=a) args.toList (λx hx=>ho x Wq)
  rw[a8]at hl
  obtain⟨p1,p2,p3,p4⟩:=Ko hI h j n q a6 a7 a1 a2
  have a0:AM (g.pick c ts) w b (vs++args.map a.eval++us).toList:=by
   simp only[Array.toList_append,Array.toList_map]
   exact AM.ba p2 b _ (by rw[p3,p4];exact a3) (hw _ _ _ ((r.append hl).append y))
  unfold Oper.wp
  rw[pV hp.1 a w vs us z]
  refine(hp.2 _ w _ p1 a0).mono ?_
  rintro e w' ⟨g1,l,x,h1,h2,h3,rfl,rfl⟩
  obtain⟨u,rfl,hu⟩:=h3
  obtain⟨g', e1,e2,e3⟩:=Kp hI h j p3 p4 p2 h1 h2
  rw[m,o]at e2
  exact hn u w' g' e1 e2 (by rw[<-hv];exact Aa.af e3 _ _ hu)) k
def E1{d:Option Tmp}{f:FuncId}{y cs J a:List AV}{T0:List Tok}{v:AV}(hx:ev? s x=some (.fn (.func f) y cs))(ha:jZ s args.toList some=some J)
  (hp:AI P f a ⟨B0,T0⟩ (λe w=>e = .ret v/\w=⟨B1,T1⟩)) (hσ:H=⟨B0++B,T0⟩) (z:B1.length=B0.length) (q:T0.length<=T1.length)
  (m:aQ B0.length T0.length B0=true) (o:aL B0.length T0.length T0=true) (r:aQ B1.length T1.length B1=true) (u:aL B1.length T1.length T1=true)
  (n:aE B0.length T0.length a=true) (hv:v.ab B1.length T1.length=true) (hw:AA (y++J++cs) a)
  (k:AD P A G K C (.all::I) (iG d v s) ⟨B1++B,T1⟩):AD P A G K (⟨d, .call ⟨.value x,args,p⟩,R,D,S,none⟩::C) I s H:=by
 subst hσ;have g:∀i,i<B1.length->emb (B0.length+B.length) (List.range B0.length) i=i:=λi X=>sQ (.inr om)
 have l:∀i,i<T1.length->emb (T0.length+0) (List.range T0.length) i=i:=λi X=>sQ (.inl rfl)
 have b:∀i,i<B0.length->emb (B0.length+B.length) (List.range B0.length) i=i:=λi X=>g i om
 have c:∀i,i<T0.length->emb (T0.length+0) (List.range T0.length) i=i:=λi X=>l i om
 have e0:=n8 b c B0 m;have e1:=mF b c T0 o;refine Hl (nB:=B0.length+B.length) (nT:=T0.length+0) (List.range B0.length) (List.range T0.length) hx ha hp Wb rfl ⟨nodup_range,λi X=>WW⟩ ⟨nodup_range,λi X=>WW⟩
  Wb Wb (λj i ob h ho=> ?_) (λj i t h ht=> ?_) YS YQ YR
  (by rw[dX b c a n];exact hw) (iK g l v hv) (B':= B1++B) (T':= T1) ?_ ?_ k
 ·grind
 ·grind
 ·rw[n8 g l B1 r];exact oO B0 B B1 (.inr z) om
 ·rw[mF g l T1 u];have:=oO T0 [] T1 (.inl rfl) q;simp_all
def eJ{H:St}{k:Nat}{x z0:AV}(hT:H.T[k]? =some (.aa [x]))(h:AC x y)(c:jX k (.aa [y]) H.T some=some T'):AK H z0 ⟨H.B,T'⟩ z0:=λg w v a hr=>by
 obtain⟨m,d⟩:=d7 _ _ _ _ _ c;have b:T'= H.T.set k (.aa [y]):=(Option.some.inj d).symm;subst b;have f:∀(j:Nat) (t:Tok) (r:A8),g.tk[j]? =some r->(H.T.set k (.aa [y]))[j]? =some t->A6 g w r t:=λj t r hj ht=>by
  by_cases e:j=k
  ·subst e;rw[List.getElem?_set_self m]at ht;cases ht;obtain⟨n,o,p,Vs,q,z,q6,q7⟩:=a.tok j _ r hj hT;obtain⟨u,C,e1,i,l⟩:=q;exact⟨n,o,p,Vs,⟨u,C,e1,h g w u i,l⟩,z,q6,q7⟩
  ·rw[List.getElem?_set_ne (Ne.symm e)]at ht;exact a.tok j t r hj ht
 exact⟨g,eV g w,⟨a.lenB,(by show g.tk.length=(H.T.set k (.aa [y])).length;rw[List.length_set];exact a.lenT),a.ob,a.nodup,a.noim,f,a.tkz,a.tkd,a.imlt,a.gl⟩,hr⟩
def gI{P:Program}{f:FuncId}{args:List AV}{H:St}{mT:Nat}{B': List Ob}
  (h:AI P f args H (λe b=>∃v a,e = .ret v/\AK b v a c/\a.B.take nB=B'/\ a.T.take mT=T')) (hb:H.B.length<=nB) (ht:H.T.length<=mT) (l:c.ab nB mT=true) (i:aQ nB mT B'= true) (hT:aL nB mT T'= true):
  AI P f args H (λe b=>e = .ret c/\b=⟨B', T'⟩):=
 ⟨h.1,λg w J X j=>(h.2 g w J X j).mono λe w' ⟨g', Y,x,h1,h2,h3,v,a,e1,h4,h5,h6⟩=>by
  subst e1
  obtain⟨u,rfl,k⟩:=h3
  obtain⟨d,m,n,o⟩:=h4 g' w' u h2 k
  subst h5;subst h6
  exact⟨d.bf nB mT,_, .ret c,rN (h1.trans m) (by rw[X.lenB];exact hb) (by rw[X.lenT];exact ht),pK n i hT,⟨u,rfl,Aa.ab c u l o⟩,rfl,rfl⟩⟩
end
theorem gJ{v:Tok}:∀ {k:Nat} {T:List Tok} {f:List Tok->Option (List Tok)},k<T.length->jX k v T f=f (T.set k v)
 |0,x::T,f,_=>rfl
 |k+1,x::T,f,h=>by rw[jX,gJ Wu];rfl
 |_,[],_,h=>Wp
theorem oP(l:List α):dN l=some l.length:=by unfold dN;split<;>simp
theorem oQ{α β:Type}:∀(l:List β) (x:β) (f:List β->Option α),kP l x f=f (l++[x])
 |[],x,f=>rfl
 |y::l,x,f=>by rw[kP,oQ l];rfl
end Go.Av
namespace Go.Proofs.YtimbiifcnhgcoaaGreatDoor
open Go Go.Av Go.Proofs.Tryz
attribute [local irreducible] AB AD AN AI Av.AU AZ
theorem A0.K(f:A0):f.C.K=true:=Xl
theorem JL(l:List A0):aA (l.map A0.C)=true:=bH A0.K l
@[simp] theorem aDK(n m:Nat)(l:List A0):aE n m (List.map A0.C l)=true:=aD n m _ (JL l)
def Nd.kind:Nd->Int
 | .mk k _ _ _ _=>k
def Nd.must:Nd->Bool
 | .mk _ m _ _ _=>m
def Nd.v:Nd->AH
 | .mk _ _ v _ _=>v
def Nd.keys:Nd->List AG
 | .mk _ _ _ k _=>k
def Nd.l:Nd->List Nd
 | .mk _ _ _ _ l=>l
mutual
def Nd.kl:Nd->List AV
 | .mk _ _ _ _ l=>rD l
def rD:List Nd->List AV
 |[]=>[]
 |x::l => .ac (.agg [.int .i64 x.kind, .bool x.must, .int .i64 x.v.kind, .int .i64 x.v.n, .str x.v.s, .slice x.v.lv .no, .slice x.v.mv .no, .slice (x.keys.map AV.str) .no, .slice [] .nil, .slice (Nd.kl x) .no])::rD l
end
def Nd.ak(x:Nd):AV := .agg [.int .i64 x.kind, .bool x.must, .int .i64 x.v.kind, .int .i64 x.v.n, .str x.v.s, .slice x.v.lv .no, .slice x.v.mv .no, .slice (x.keys.map AV.str) .no, .slice [] .nil, .slice x.kl .no]
mutual
def Nd.nl:Nd->List AV
 | .mk _ _ _ _ l=>xE l
def xE:List Nd->List AV
 |[]=>[]
 |x::l => .agg [.int .i64 x.kind, .bool x.must, .int .i64 x.v.kind, .int .i64 x.v.n, .str x.v.s, .slice x.v.lv .no, .slice x.v.mv .no, .slice (x.keys.map AV.str) .no, .slice (Nd.nl x) .no]::xE l
end
def Nd.C(x:Nd):AV := .agg [.int .i64 x.kind, .bool x.must, .int .i64 x.v.kind, .int .i64 x.v.n, .str x.v.s, .slice x.v.lv .no, .slice x.v.mv .no, .slice (x.keys.map AV.str) .no, .slice x.nl .no]
theorem D1:∀l:List Nd,rD l=l.map λx => .ac x.ak
 |[]=>by simp[rD]
 |x::l=>by rw[rD,D1 l];rfl
theorem D2:∀l:List Nd,xE l=l.map Nd.C
 |[]=>by simp[xE]
 |x::l=>by rw[xE,D2 l];rfl
theorem Nd.ch(x:Nd):x.kl=x.l.map λy => .ac y.ak:=by cases x;rw[Nd.kl,D1];rfl
theorem Nd.cg(x:Nd):x.nl=x.l.map Nd.C:=by cases x;rw[Nd.nl,D2];rfl
mutual
theorem eA:∀x:Nd,x.ak.K=true
 | .mk k m v a l=>by
  simp only[Nd.ak,AV.K,aA,Bool.and_true,Bool.true_and,AH.bp,AH.bs,aT]
  rw[Nd.kl,xF l]
theorem xF:∀l:List Nd,aA (rD l)=true
 |[]=>by simp[rD,aA]
 |x::l=>by
  have a:=eA x
  have b:=xF l
  rw[rD,aA,b,Bool.and_true]
  exact a
end
mutual
theorem Nd.K:∀x:Nd,x.C.K=true
 | .mk k m v a l=>by
  simp only[Nd.C,AV.K,aA,Bool.and_true,Bool.true_and,AH.bp,AH.bs,aT]
  rw[Nd.nl,z8 l]
theorem z8:∀l:List Nd,aA (xE l)=true
 |[]=>by simp[xE,aA]
 |x::l=>by
  have a:=Nd.K x
  have b:=z8 l
  rw[xE,aA,b,Bool.and_true]
  exact a
end
def E2(l:List Nd):aA (l.map Nd.C)=true:=by rw[<-D2];exact z8 l
theorem gS(l:List Nd):aA (l.map λy=>AV.ac y.ak)=true:=by rw[<-D1];exact xF l
def kn0(must:Bool):AV := .agg [.int .i64 0, .bool must, .int .i64 0, .int .i64 0, .str [], .slice [] .nil, .slice [] .nil, .slice [] .nil, .slice [] .nil, .slice [] .nil]
def VH{B:List Ob}{T:List Tok}{j b n:Nat}{d l:AV}(hj:T[j]? =some (.aa [.agg [c,d,f,g,h,i,k,l,m, .slice xs (.own b 1)]]))(hb:T[b]? =some (.len n))(hn:xs.length=n)(t:j≠b)(v:n<=1099511627776):
  AI prog 107 [.ao j 10 1 0 0] ⟨B,T⟩ (λe Y=>e = .ret (AV.ao T.length 10 1 0 0)/\
   Y=⟨B,((T++[Tok.aa [kn0 false]]).set b (.len (n+1))).set j (.aa [.agg [c,d,f,g,h,i,k,l,m, .slice (xs++[AV.ao T.length 10 1 0 0]) (.own b 1)]])⟩):=by
 have u:=(List.getElem?_eq_some_iff.1 hj).1;have p:=(List.getElem?_eq_some_iff.1 hb).1;have a:(T++[Tok.aa [kn0 false]])[j]? =some (.aa [.agg [c,d,f,g,h,i,k,l,m, .slice xs (.own b 1)]]):=by rw[List.getElem?_append_left u];exact hj
 have o:(T++[Tok.aa [kn0 false]])[b]? =some (.len n):=by rw[List.getElem?_append_left p];exact hb
 have r:((T++[Tok.aa [kn0 false]]).set b (.len (n+1)))[j]? =some (.aa [.agg [c,d,f,g,h,i,k,l,m, .slice xs (.own b 1)]]):=by rw[List.getElem?_set_ne (Ne.symm t)];exact a
 refine aS [2] func107 ?_
 repeat' first|refine S2 (z:=10) rfl rfl (oP _) (oQ _ _ _) ?_|refine fT rfl ?_|refine .s1 ?_|(refine .q ?_ ?_<;>intro O)|refine fD rfl rfl a rfl rfl rfl ?_|refine bW (n:=n) rfl rfl rfl rfl rfl rfl rfl o hn rfl Wa Wa (gJ Wl) ?_|refine bC (agg:=true) rfl rfl rfl rfl r rfl rfl rfl rfl rfl (gJ Wl) ?_|fail
 exact⟨rfl,rfl⟩
def aBF(p:Ab)(x:AU)(hp:p.length<=2097152):AN prog 55 [.slice (p.map AU.C) .no,x.C] (.slice ((p++[x]).map AU.C) .no):=by
 refine AI.plain (by have:=dM (p++[x]);simp only[AV.K,this];rfl) (by simp[aA,AV.K,dM,AU.C]) (aS [4] func55 ?_);have a:(p.map AU.C).length=p.length:=List.length_map ..
 repeat' first|refine .s1 ?_|(refine .q ?_ ?_<;>intro O)|refine Tt (n:=p.length+1) rfl rfl rfl rfl rfl om Wg om rfl rfl ?_|refine bW (n:=0) rfl rfl rfl rfl rfl rfl rfl rfl rfl (Hg p) Wg om rfl ?_|refine bW (n:=0+(p.map AU.C).length) rfl rfl rfl rfl rfl rfl rfl rfl Wb rfl Wa Wa rfl ?_|fail
 refine aP rfl (AC.no ?_);have e:([]++p.map AU.C++[x.C])=(p++[x]).map AU.C:=Wb
 show AA _ ((p++[x]).map AU.C);rw[<-e];exact aB _
def Dp:List Field:=[{ name := "Table",type:=9,offset:=0,embedded:=false,tag := "",pkgPath := "",byteOffset:=0 },{ name := "Key",type:=9,offset:=1,embedded:=false,tag := "",pkgPath := "",byteOffset:=16 }]
def S3:CR prog 71 Dp:=⟨underlying71,Wc,Wc,Wd⟩
def U3(x y:Ae):Jb prog Dp 0 [.str x.table, .str x.key] [.str y.table, .str y.key]=some (decide (x=y)):=by
 have:Jb prog Dp 0 [.str x.table, .str x.key] [.str y.table, .str y.key]=some (x.table==y.table&&(x.key==y.key&&true)):=rfl;rw[this];obtain⟨a,b⟩:=x;obtain⟨c,e⟩:=y
 congr 1
 rw[Bool.eq_iff_iff];simp
theorem rR(l:List Ae):aA (l.map Ae.C)=true:=bH Ae.K l
@[simp] theorem aBg(n m:Nat)(l:List Ae):aE n m (List.map Ae.C l)=true:=aD n m _ (rR l)
def Nv(l:List Ae)(x:Ae)(e:l.length<=9223372036854775807):AN prog 105 [.slice (l.map Ae.C) .no,x.C] (.int .i64 (bG (λy=>decide (x=y)) l 0)):=by
 refine AI.plain rfl (by simp[AV.K,aA,rR,Ae.K]) (aS [4] func105 ?_);refine .ae ?_;refine bK l.length (λk=>[(8, .int .i64 k),(7, .int .i64 l.length),(0, .slice (l.map Ae.C) .no),(3, .ac x.C)]) (λ_=>⟨[],[]⟩) (λk=>bG (λy=>decide (x=y)) l 0=bG (λy=>decide (x=y)) (l.drop k) k) Z9 rfl rfl λk hk hp=> ?_
 by_cases a:k<l.length
 ·have c:decide ((k:Int)<(l.length:Int))=true:=by simp[a]
  have x1:=aV (f:=Ae.C) a;have b:=cR (p:=λy=>decide (x=y)) a;have d:=U3 x l[k]
  repeat' first|refine .s1 ?_|(refine .q ?_ ?_<;>intro O)|refine Vd S3 rfl rfl d ?_|fail
  ·refine aP rfl (AC.eq ?_);rw[hp,b,if_pos O]
  ·exact⟨a,Z9,by simp[aM,AV.ab,Ae.C,aE],rfl,rfl,by rw[hp,b,if_neg (by rw[O];decide)]⟩
 ·have c:decide ((k:Int)<(l.length:Int))=false:=by simp;omega
  refine .go ?_;refine aP rfl (AC.eq ?_);rw[hp,List.drop_eq_nil_of_le om,bG]
def HK(l:List Ae)(x:Ae)(a:l.length<=9223372036854775807):AN prog 52 [.slice (l.map Ae.C) .no,x.C] (.bool (decide (x∈l))):=by have h:=Nv l x a;refine AI.plain rfl (by simp[AV.K,aA,rR,Ae.K]) (aS [4] func52 ?_);refine .ae ?_;refine Fin.rb ?_;have:=Fh (λy=>decide (x=y)) l;rw[show decide (bG (λy=>decide (x=y)) l 0≥0)=decide (0<=bG (λy=>decide (x=y)) l 0) from rfl,this,Bool.eq_iff_iff,List.any_eq_true,decide_eq_true_eq];exact⟨λ⟨y,b,e⟩=>by rw[decide_eq_true_eq]at e;exact e▸b,λh=>⟨x,h,Wb⟩⟩
def rE(s:AJ)(d:AR)(A:List AF)(rd ly:AV)(F:List A0):List AV:=
 [.slice (s.ai.map Ah.C) .no, .str s.query, .str s.av, .slice (d.ops.map Ak.C) .no, .slice (d.aj.map Af.C) .no, .slice (A.map AF.C) .no,rd,ly, .slice (F.map A0.C) (.own 0 2)]
def J5(s:AJ)(d:AR)(A:List AF)(x w:AV)(B:List Ob)(T:List Tok)(F:List A0)(j:Nat)(p:Ab)(e:Int){y g h i k l m u v:AV}(h0:T[0]? =some (.len F.length))(hj:T[j]? =some (.aa [.agg [y,g,h,i,k,l,m,o,u,v]]))(b:j≠0)(hF:F.length<=68719476736):
  AI prog 48 [.ptr 0 0, .ao j 10 1 0 0, .slice (p.map AU.C) .no, .int .i64 e] ⟨.cells (rE s d A x w F)::B,T⟩
   (λr Y=>r = .ret (.tup [])/\Y=⟨.cells (rE s d A x w (F++[⟨p,e⟩]))::B,(T.set j (.aa [.agg [.int .i64 3,g,h,i,k,l,m,o,u,v]])).set 0 (.len (F.length+1))⟩):=by
 have c:=(List.getElem?_eq_some_iff.1 hj).1;have a:∀t:Tok,(T.set j t)[0]? =some (.len F.length):=λt=>by rw[List.getElem?_set_ne b];exact h0
 have f:(F.map A0.C).length=F.length:=List.length_map _;refine aS [] func48 ?_;unfold rE
 repeat' first|refine .s1 ?_|(refine .q ?_ ?_<;>intro O)|refine fT rfl ?_|refine b7 rfl ?_|refine bC (agg:=true) rfl rfl rfl rfl hj rfl rfl rfl rfl rfl (gJ c) ?_|refine bW (n:=F.length) rfl rfl rfl rfl rfl rfl rfl (a _) f rfl Wa Wa (gJ (by simp only[List.length_set];omega)) ?_|fail
 refine⟨rfl, ?_⟩;rw[List.map_append];rfl
def VI(s:AJ)(d:AR)(A:List AF)(c b:AV)(B:List Ob)(T:List Tok)(F:List A0)(j:Nat)(p:Ab){n e l:AV}(h0:T[0]? =some (.len F.length))(hj:T[j]? =some (.aa [.agg [n, .bool true,e,f,g,h,i,k,l,m]]))(a:j≠0)(hF:F.length<=68719476736):
  AI prog 49 [.ptr 0 0, .ao j 10 1 0 0, .slice (p.map AU.C) .no] ⟨.cells (rE s d A c b F)::B,T⟩
   (λr Y=>r = .ret (.tup [])/\Y=⟨.cells (rE s d A c b (F++[⟨p,9⟩]))::B,(T.set j (.aa [.agg [.int .i64 3, .bool true,e,f,g,h,i,k,l,m]])).set 0 (.len (F.length+1))⟩):=by
 have hb:=J5 s d A c b B T F j p 9 h0 hj a hF;refine aS [] func49 ?_
 repeat' first|refine .s1 ?_|(refine .q ?_ ?_<;>intro O)|refine fT rfl ?_|refine fD rfl rfl hj rfl rfl rfl ?_|refine dR rfl hb (aB _) ?_|fail
 exact⟨rfl,rfl⟩
def Nw(s:AJ)(d:AR)(A:List AF)(b a:AV)(B:List Ob)(T:List Tok)(F:List A0)(j:Nat)(p:Ab){e l:AV}(hj:T[j]? =some (.aa [.agg [c, .bool false,e,f,g,h,i,k,l,m]])):
  AI prog 49 [.ptr 0 0, .ao j 10 1 0 0, .slice (p.map AU.C) .no] ⟨.cells (rE s d A b a F)::B,T⟩
   (λr Y=>r = .ret (.tup [])/\Y=⟨.cells (rE s d A b a F)::B,T⟩):=by
 refine aS [] func49 ?_
 repeat' first|refine .s1 ?_|(refine .q ?_ ?_<;>intro O)|refine fT rfl ?_|refine fD rfl rfl hj rfl rfl rfl ?_|fail
 exact⟨rfl,rfl⟩
end Go.Proofs.YtimbiifcnhgcoaaGreatDoor
namespace Go.Av
open Go
section
variable [AL]
variable {P:Program} [Lay P] {N:Nat} {D:List Deferred} {K:AX->AE->St->Prop} {s:AE} {H:St}
theorem S4(w:World)(x y:Array Value)(T:TypeId):tH (dO w (.cells x T)) w.heap.size y T=dO w (.cells y T):=by
 have:(w.heap.push (.cells x T)).setIfInBounds w.heap.size (.cells y T (0,0))=w.heap.push (.cells y T):=WZ
 unfold tH dO;simp_all
def NA{g:TI}(hT:ty? P T=some g)(hz:g.size=1){w:World}{x:Array Value}(hx:x.size=1){a:Act}{d:Tmp}{b:Bool}{R:TypeId}{D:String}{S:Array Edge}{next:Act->World->Prop}{Q:Exit->Act->World->Prop}
  (ha:a.eval (.tmp d) = .pointer (some ⟨w.heap.size,0,none⟩)) (h:next (a.put none undef) (dO w (.cells #[.bool b] T))):
  Oper.wp P ⟨none, .store T (.tmp d) (.const (.bool b)),R,D,S,none⟩ a (dO w (.cells x T)) next Q:=by
 have e:(dO w (.cells x T)).heap[w.heap.size]? =some (.cells x T (0,0)):=rV w _;have c:=run_storeCells_at P w.heap.size 0 T [.bool b] 0 x (dO w (.cells x T)) e Yq (by intro u f;simp at f;subst f;rfl);rw[vY e,S4]at c;have i:(x.toList.take 0++[Value.bool b]++x.toList.drop (0+[Value.bool b].length)).toArray = #[.bool b]:=WZ
 have j:(a.eval (.const (.bool b))).cells.toList=[.bool b]:=rfl;have k:(a.eval (.const (.bool b))).cells.size=1:=rfl;unfold Oper.wp;simp only[execOp,ha,Instr.storeAt,Instr.sureAddr,storeVar,Sem.run_bind,Sem.run_pure,Result.andThen,dA hT,hz,j,k,ne_eq,not_true_eq_false,if_false];rw[c];rw[i];exact h
def uS{b:Array Oper}{Q:Exit->Act->World->Prop}{i:Nat}{K:Act->World->Prop}{a:Act}{w:World}{o:Oper}(h:b[i]? =some o)(c:o.guard=none)(d:o.wp P a w K Q):wpOp P b Q i K a w:=by unfold wpOp;rw[h];dsimp only;rw[if_pos (by unfold Region.wanted;rw[c])];simp_all
def VJ(ops:Array Oper):Bool:=
 decide (Region.ready .any ops (Array.replicate 4 false)=[0])&&(decide (Region.ready .any ops ((Array.replicate 4 false).setIfInBounds 0 true)=[1,2])&&(decide (Region.ready .any ops (((Array.replicate 4 false).setIfInBounds 0 true).setIfInBounds 1 true)=[2])&&(decide (Region.ready .any ops (((Array.replicate 4 false).setIfInBounds 0 true).setIfInBounds 2 true)=[1])&&(decide (Region.ready .any ops ((((Array.replicate 4 false).setIfInBounds 0 true).setIfInBounds 1 true).setIfInBounds 2 true)=[3])&&(decide (Region.ready .any ops ((((Array.replicate 4 false).setIfInBounds 0 true).setIfInBounds 2 true).setIfInBounds 1 true)=[3])&&(decide (Region.ready .any ops (((((Array.replicate 4 false).setIfInBounds 0 true).setIfInBounds 1 true).setIfInBounds 2 true).setIfInBounds 3 true)=[])&&(decide (Region.ready .any ops (((((Array.replicate 4 false).setIfInBounds 0 true).setIfInBounds 2 true).setIfInBounds 1 true).setIfInBounds 3 true)=[]))))))))
def OY{id:Nat}{d k:Tmp}{ti:TI}{y1 y2 y3 y4:TypeId}{p1 p2 p3 p4:String}{a1 a2 a3 z:Array Edge}{n:Array Oper}
  (v:n = #[⟨some d, .alloc T,y1,p1,a1,none⟩,⟨none, .store T (.tmp d) (.const (.bool true)),y2,p2,a2,none⟩,⟨none, .store T (.tmp d) (.const (.bool false)),y3,p3,a3,none⟩,⟨some k, .load T (.tmp d),y4,p4,z,none⟩])
  (hT:ty? P T=some ti) (hz:ti.size=1) (hg:ti.agg=false) (t:P.follows .mixedOrders=true) (q:d<N) (aa:k<N)
  (hR:VJ n=true)
  (h:∀b,K .normal ((k, .bool b)::(d, .undef)::s) H):AB P N D (.region id n true) K s H:=λg w a X hr ha hd=>by
 unfold VJ at hR
 simp only[and_eq_true,decide_eq_true_eq]at hR
 obtain⟨r0,r1,r2,r3,r4,r5,r6,r7⟩:=hR
 subst v
 refine wp_region_any t ?_
 have r:=X.drew (w.drawn+1)
 have l:=Ar.drew g w (w.drawn+1)
 generalize { w with drawn:=w.drawn+1 }=w1 at r l
 obtain⟨zv,ab,aw,m,ax⟩:=nP hT w1
 rw[hz]at m
 have fin:∀b:Bool,∀f:Act,f=((a.put (some d) (.pointer (some ⟨w1.heap.size,0,none⟩))).put none undef).put none undef->
   Bw g w N D K .normal (f.put (some k) (.bool b)) (dO w1 (.cells #[.bool b] T)):=by
  rintro b f rfl
  obtain⟨n1,n2⟩:=FQ r #[.bool b] T 0 (zero_le _)
  refine⟨.normal,_,H,_,rfl, ?_, ?_,l.trans n1,n2, ?_,h b⟩
  ·simpa [Act.put]using ha
  ·simpa [Act.put]using hd
  ·refine A3.put ?_ (by simpa [Act.put,ha]using aa) rfl
   exact A3.put ((hr.mono l.le).mono n1.le) (by rw[ha];exact q) trivial
 have e1:(a.put (some d) (.pointer (some ⟨w1.heap.size,0,none⟩))).eval (.tmp d) = .pointer (some ⟨w1.heap.size,0,none⟩):=by
  simp[Act.eval,Act.put,Array.getD,ha,q]
 have ld:∀(b:Bool) (f:Act) (Q:Exit->Act->World->Prop) (nx:Act->World->Prop),f.eval (.tmp d) = .pointer (some ⟨w1.heap.size,0,none⟩)->nx (f.put (some k) (.bool b)) (dO w1 (.cells #[.bool b] T))->
   Oper.wp P ⟨some k, .load T (.tmp d),y4,p4,z,none⟩ f (dO w1 (.cells #[.bool b] T)) nx Q:=λb f Q nx ea hn=>by
  have hl:=lU hT (w:=dO w1 (.cells #[.bool b] T)) (b:=w1.heap.size) (o:=0) (V := .bool b) (λj u hj=>by
   rw[zero_add,dV];exact hj) (λe=>by rw[hg]at e;cases e) (λ_=>rfl)
  unfold Oper.wp
  simp only[execOp,ea,Instr.loadAt,Instr.sureAddr,Sem.run_bind,Sem.run_pure,Result.andThen,hl]
  exact hn
 have st:∀(b:Bool) (x:Array Value) (f:Act) (Q:Exit->Act->World->Prop) (nx:Act->World->Prop) (y:TypeId) (p:String) (S:Array Edge),x.size=1->f.eval (.tmp d) = .pointer (some ⟨w1.heap.size,0,none⟩)->nx (f.put none undef) (dO w1 (.cells #[.bool b] T))->
   Oper.wp P ⟨none, .store T (.tmp d) (.const (.bool b)),y,p,S,none⟩ f (dO w1 (.cells x T)) nx Q:=λb x f Q nx y p S hx ea hn=>NA hT hz hx ea hn
 show wpAny P .any _ _ 4 (Array.replicate 4 false) a w1
 rw[wpAny]
 refine⟨λe=>(by rw[r0]at e;cases e),λi c=> ?_⟩
 rw[r0]at c;obtain rfl:=mem_singleton.1 c
 refine uS (o:=⟨some d, .alloc T,y1,p1,a1,none⟩) rfl rfl ?_
 unfold Oper.wp
 simp only[execOp,Instr.alloc,ab,newVar,newRow,newObj,Sem.run_bind,Result.andThen,Sem.run]
 show wpAny P .any _ _ 3 _ (a.put (some d) (.pointer (some ⟨w1.heap.size,0,none⟩))) (dO w1 (.cells zv.cells T))
 rw[wpAny]
 refine⟨λe=>(by rw[r1]at e;cases e),λi c=> ?_⟩
 rw[r1]at c
 simp only[List.mem_cons,List.not_mem_nil,or_false]at c
 rcases c with rfl|rfl
 ·refine uS (o:=⟨none, .store T (.tmp d) (.const (.bool true)),y2,p2,a2,none⟩) rfl rfl ?_
  refine st true _ _ _ _ _ _ _ m e1 ?_
  rw[wpAny]
  refine⟨λe=>(by rw[r2]at e;cases e),λi c=> ?_⟩
  rw[r2]at c;obtain rfl:=mem_singleton.1 c
  refine uS (o:=⟨none, .store T (.tmp d) (.const (.bool false)),y3,p3,a3,none⟩) rfl rfl ?_
  refine st false _ _ _ _ _ _ _ rfl e1 ?_
  rw[wpAny]
  refine⟨λe=>(by rw[r4]at e;cases e),λi c=> ?_⟩
  rw[r4]at c;obtain rfl:=mem_singleton.1 c
  refine uS (o:=⟨some k, .load T (.tmp d),y4,p4,z,none⟩) rfl rfl ?_
  refine ld false _ _ _ e1 ?_
  rw[wpAny]
  exact⟨r6,fin false _ rfl⟩
 ·refine uS (o:=⟨none, .store T (.tmp d) (.const (.bool false)),y3,p3,a3,none⟩) rfl rfl ?_
  refine st false _ _ _ _ _ _ _ m e1 ?_
  rw[wpAny]
  refine⟨λe=>(by rw[r3]at e;cases e),λi c=> ?_⟩
  rw[r3]at c;obtain rfl:=mem_singleton.1 c
  refine uS (o:=⟨none, .store T (.tmp d) (.const (.bool true)),y2,p2,a2,none⟩) rfl rfl ?_
  refine st true _ _ _ _ _ _ _ rfl e1 ?_
  rw[wpAny]
  refine⟨λe=>(by rw[r5]at e;cases e),λi c=> ?_⟩
  rw[r5]at c;obtain rfl:=mem_singleton.1 c
  refine uS (o:=⟨some k, .load T (.tmp d),y4,p4,z,none⟩) rfl rfl ?_
  refine ld true _ _ _ e1 ?_
  rw[wpAny]
  exact⟨r7,fin true _ rfl⟩
end
end Go.Av
namespace Go.Proofs.YtimbiifcnhgcoaaGreatDoor
open Go Go.Av Go.Proofs.Tryz
attribute [local irreducible] AB AD AN AI Av.AU AZ
def LJ:TI:=⟨.func,1,8,false, .nilfn,[],0⟩
def VK:CD prog 363 LJ:=FD .nilFunc Wc underlying363 rfl rfl rfl rfl rfl Wc rfl Wc
def VL:CD prog 248 LJ:=FD .nilFunc Wc underlying248 rfl rfl rfl rfl rfl Wc rfl Wc
def S5:List (Nat×TI):=(363,LJ)::(248,LJ)::table
instance layF:Lay prog:=⟨S5,⟨VK,VL,HA⟩,checked.mixed⟩
def Qr{l:List AG}{k:Nat}(h:k<l.length):(l.take (k+1)).Nodup↔(l.take k).Nodup/\l[k]∉l.take k:=WX
end Go.Proofs.YtimbiifcnhgcoaaGreatDoor
