import Derived.Test.YtimbiifcnhgcoaaGreatDoorGEvK27
set_option maxRecDepth 100000
set_option maxHeartbeats 16000000
set_option linter.all false
open List (getElem_mem length_map mem_cons mem_singleton not_mem_nil)
open Nat (le_refl le_trans zero_le)
open Go Go.Av Go.Proofs.YtimbiifcnhgcoaaGreatDoor Go.Proofs.Tryz
variable{name:AG}{m:Int}{x y:Operand}{p:Prop}{ti:TI}{U:TypeId}
namespace Go.Av
open Go Go.Proofs.YtimbiifcnhgcoaaGreatDoor
variable [AL]
abbrev vz(L:List A4):St:=⟨[],[.aa (L.map A4.C)]⟩
abbrev vv(n:Nat):AV := .aa 0 2 n 0 n
def SE(P:Program)(f:FuncId)(n:Nat)(args:List AV):Prop:=
 ∀L:List A4,L.length=n->∃L': List A4,L'.length=n/\AI P f args (vz L) (λe H=>e = .ret (.tup [])/\H=vz L')
def aCq(P:Program):Prop:=∀a b:A4,∃r:Int,AN P 69 [a.C,b.C] (.int .i64 r)
section
variable {P:Program} [Lay P] {A:Array Oper} {G:Bool} {K:AX->AE->St->Prop} {C:List Oper} {I:List Aj} {s:AE} {H:St} {d:Tmp} {dst:Option Tmp} {R:TypeId} {D:String} {S:Array Edge} {n:Nat} {L:List A4} {T:TypeId}
def AD.vI{i:Operand}{te:TI}(k:AD P A G K C (.pure::I) ((d, .ao 0 2 n m.toNat 0)::s) H)(hT:ty? P T=some ti:=by exact rfl)(hk:ti.kind = .slice:=by exact rfl)(hE:ty? P ti.elem=some te:=by exact rfl)(hz:Nat.beq te.size 2=true:=by exact rfl)(hx:ev? s x=some (vv n):=by exact rfl)(X:ev? s i=some (.int .i64 m):=by exact rfl)(h:0<=m/\m<n:=by omega):
  AD P A G K (⟨some d, .indexAddr T x i,R,D,S,none⟩::C) I s H:=fI hT hk hE hz hx X (j:=m.toNat) om om (Nat.zero_add _) k
def AD.vL{j:Nat}(k:∀f:A4,AD P A G K C (.rt::I) ((d,f.C)::s) H)(hT:ty? P T=some ti:=by exact rfl)(hx:ev? s x=some (.ao 0 2 n j 0):=by exact rfl)(hσ:H=vz L:=by exact rfl)(a:L.length=n:=by assumption)(h:j<n:=by omega)(ha:ti.agg=true:=by exact rfl)(hz:ti.size=2:=by exact rfl):
  AD P A G K (⟨some d, .load T x,R,D,S,none⟩::C) I s H:=by
 have hj:j<L.length:=om
 exact fD hT hx (by rw[hσ];rfl) (by rw[length_map];exact a) (show (L.map A4.C)[j]? =some L[j].C by simp[hj]) (by rw[ha,hz];rfl) (k L[j])
def AD.vS{j:Nat}{f:A4}(k:∀L': List A4,L'.length=n->AD P A G K C (.tk::I) s (vz L'))(hT:ty? P T=some ti:=by exact rfl)(hx:ev? s x=some (.ao 0 2 n j 0):=by exact rfl)(b:ev? s y=some f.C:=by exact rfl)(hσ:H=vz L:=by exact rfl)(a:L.length=n:=by assumption)(h:j<n:=by omega)(ha:ti.agg=true:=by exact rfl)(hz:ti.size=2:=by exact rfl):
  AD P A G K (⟨none, .store T x y,R,D,S,none⟩::C) I s H:=by
 have hj:j<L.length:=om
 subst hσ;exact bC (agg:=true) hT hx b (by rw[ha,hz];rfl) rfl (by rw[length_map];exact a) (show (L.map A4.C)[j]? =some L[j].C by simp[hj]) rfl (by rw[hz];rfl) (e1:=f.C) rfl rfl (by rw[<-List.map_set];exact k _ Ww)
def AD.vC{args:Array Operand}{p:Array TypeId}{a b:A4}(k:∀r:Int,AD P A G K C (.pure::I) (iG dst (.int .i64 r) s) H)(h:aCq P:=by assumption)(hx:ev? s x=some fcl:=by exact rfl)(ha:jZ s args.toList some=some [a.C,b.C]:=by exact rfl):AD P A G K (⟨dst, .call ⟨.value x,args,p⟩,R,D,S,none⟩::C) I s H:=
 let ⟨r,hr⟩:=h a b
 Cg hx ha hr (aB _) (k r)
theorem AD.sc{f:FuncId}{args:Array Operand}{p:Array TypeId}{J:List AV}(k:∀L': List A4,L'.length=n->AD P A G K C (.all::I) (iG dst (.tup []) s) (vz L'))(ha:jZ s args.toList some=some J:=by exact rfl)(hσ:H=vz L:=by exact rfl)(c:L.length=n:=by assumption)(d:aE 0 1 J=true:=by exact rfl)(hw:aX (emb 0 []) (emb 1 [0]) J=J:=by exact rfl)(hp:SE P f n J):
  AD P A G K (⟨dst, .call ⟨.value (.func f),args,p⟩,R,D,S,none⟩::C) I s H:=by obtain⟨L', a,b⟩:=hp L c;subst hσ;exact Jj 0 ha b rfl rfl (nK _) (nK _) d (by show AA J (aX (emb 0 []) (emb 1 [0]) J);rw[hw];exact aB _) rfl rfl (k L' a)
theorem AD.c6{tU:TI}(b:AD P A G K C (.pure::I) ((d, .int .u64 m)::s) H)(hT:ty? P T=some ti:=by exact rfl)(a:ty? P U=some tU:=by exact rfl)(hk:tU.kind = .int .u64:=by exact rfl)(hx:ev? s x=some (.int .i64 m):=by exact rfl)(h:0<=m/\m<4611686018427387904:=by omega):AD P A G K (⟨some d, .convert T U x,R,D,S,none⟩::C) I s H:=gC hT a hk hx (IntWalk.u64_in _ om) b
def AD.c7{tU:TI}(b:AD P A G K C (.pure::I) ((d, .int .i64 m)::s) H)(hT:ty? P T=some ti:=by exact rfl)(a:ty? P U=some tU:=by exact rfl)(hk:tU.kind = .int .i64:=by exact rfl)(hx:ev? s x=some (.int .u64 m):=by exact rfl)(h:0<=m/\m<4611686018427387904:=by omega):AD P A G K (⟨some d, .convert T U x,R,D,S,none⟩::C) I s H:=gC hT a hk hx (IntWalk.i64_in _ om) b
theorem AD.hf{T U:TypeId}(a:AD P A G K C (.pure::I) ((d, .int .u64 (m/2))::s) H)(hx:ev? s x=some (.int .u64 m):=by exact rfl):AD P A G K (⟨some d, .binOp .shr T x (.const (.int .u64 1)) U,R,D,S,none⟩::C) I s H:=VQ hx rfl a
def AD.ml{a b:Int}(e:AD P A G K C (.pure::I) ((d, .int .i64 (a * b))::s) H)(hx:ev? s x=some (.int .i64 a):=by exact rfl)(c:ev? s y=some (.int .i64 b):=by exact rfl)(hb : -9223372036854775808<=a * b/\a * b<=9223372036854775807:=by omega):AD P A G K (⟨some d, .binOp .mul T x y U,R,D,S,none⟩::C) I s H:=NQ hx c rfl hb e
def AD.gd{a:Op}{j:Nat}[Decidable p](b:p->decide p=true->AD P A G K (⟨dst,a,R,D,S,none⟩::C) I s H)(c:¬p->decide p=false->AD P A G K C (.pure::I) (iG dst (.tup []) s) H)(h:yv A s j=some (.bool (decide p)):=by exact rfl):
  AD P A G K (⟨dst,a,R,D,S,some (j,true)⟩::C) I s H:=fH h (λe=>b Yi e) (λe=>have e:decide p=false:=by simpa using e
  c Yi e)
end
section
variable {P:Program} [Lay P] {N:Nat} {D:List Deferred} {c:Code} {K:AX->AE->St->Prop} {s:AE} {H:St} {n:Nat} {L:List A4}
def EX.qd{y z:Code}[Decidable p](ht:p->decide p=true->EX P N D y K s H)(hf:¬p->decide p=false->EX P N D z K s H)(O:ev s x = .bool (decide p):=by exact rfl):EX P N D (.cond x y z) K s H := .q (λh=>ht Wu h) (λh=>hf Wu h) O
def EX.qn{y z:Code}{a b:Int}(ht:a≠b->EX P N D y K s H)(hf:a=b->EX P N D z K s H)(O:ev s x = .bool (a != b):=by exact rfl):EX P N D (.cond x y z) K s H := .q (λh=>ht Wu) (λh=>hf Wu) O
structure Sn(n:Nat){ι:Type}(I:ι->Prop)(S:ι->AE)(μ:ι->Nat)(i:ι)(s': AE)(Y:St):Prop where
 ex:∃j,I j/\μ j<μ i/\Sub (S j) s'/\ ∃L:List A4,L.length=n/\(⟨Y.B.take 0,Y.T.take 1⟩:St)=vz L
def EX.sl{ι:Type}(I:ι->Prop)(S:ι->AE)(μ:ι->Nat)(i0:ι)(a:∀i,I i->∀L:List A4,L.length=n->EX P N D c (thn (Sn n I S μ i) K) (S i) (vz L))(h0:I i0:=by (try dsimp only);omega)(hs:Sub (S i0) s:=by (repeat' first|exact trivial|refine⟨rfl, ?_⟩))(hσ:H=vz L:=by exact rfl)(f:L.length=n:=by assumption)
  (hS:∀i,aM 0 1 (S i)=true:=by intro i;rfl):EX P N D (.loop c) K s H:=by
 subst hσ;refine EX.loop (λm g b=>∃i,m=μ i/\I i/\g=S i/\∃L:List A4,L.length=n/\b=vz L) hs ⟨i0,rfl,h0,rfl,L,f,rfl⟩ ?_;rintro m g b ⟨i,rfl,X,rfl,L,f,rfl⟩;refine(a i X L f).mono λe s' Y h=> ?_
 cases e with
 |normal=>
  obtain⟨j,k,l,h3,L', h4,d⟩:=h.ex;have hb:aM 0 1 (S j)=true/\(aQ 0 1 (Y.B.take 0)&&aL 0 1 (Y.T.take 1))=true:=⟨hS j,by rw[show Y.B.take 0=[] from congrArg St.B d,show Y.T.take 1=_ from congrArg St.T d];simp only[aQ,aL,Tok.ab,yP,Bool.true_and,Bool.and_true]⟩
  exact⟨μ j,l,S j,h3,hb.1,hb.2,j,rfl,k,rfl,L', h4,d⟩
 |_=>exact h
theorem EX.s2(I:Int->Int->Prop)(S:Int->Int->AE)(μ:Int->Int->Nat)(b j0:Int)(a:∀i j,I i j->∀L:List A4,L.length=n->EX P N D c (thn (Sn n (λp:Int×Int=>I p.1 p.2) (λp=>S p.1 p.2) (λp=>μ p.1 p.2) (i,j)) K) (S i j) (vz L))(h0:I b j0:=by (try dsimp only);omega)(hs:Sub (S b j0) s:=by (repeat' first|exact trivial|refine⟨rfl, ?_⟩))(hσ:H=vz L:=by exact rfl)(d:L.length=n:=by assumption)
  (hS:∀i j,aM 0 1 (S i j)=true:=by intro i j;rfl):EX P N D (.loop c) K s H := .sl (λp:Int×Int=>I p.1 p.2) (λp=>S p.1 p.2) (λp=>μ p.1 p.2) (b,j0) (λp=>a p.1 p.2) h0 hs hσ d (λp=>hS p.1 p.2)
def sn{ι:Type}{I:ι->Prop}{S:ι->AE}{μ:ι->Nat}{i:ι}(j:ι)(hs:Sub (S j) s:=by (repeat' first|exact trivial|refine⟨rfl, ?_⟩))(b:I j:=by (try dsimp only);omega)(a:μ j<μ i:=by (try dsimp only);omega)(hσ:(⟨H.B.take 0,H.T.take 1⟩:St)=vz L:=by exact rfl)(c:L.length=n:=by assumption):Sn n I S μ i s H:=⟨j,b,a,hs,L,c,hσ⟩
def es(hσ:(⟨H.B.take 0,H.T.take 1⟩:St)=vz L:=by exact rfl)(a:L.length=n:=by assumption):∃L': List A4,L'.length=n/\Av.ret (gG s []) = .ret (.tup [])/\(⟨H.B.take 0,H.T.take 1⟩:St)=vz L':= ⟨L,a,rfl,hσ⟩
def se{f:FuncId}{fn:Func}{args:List AV}(hf:P.funcs[f]? =some fn)(h:∀L:List A4,L.length=n->EX P N [] c (fin [] (λe Y=>∃L': List A4,L'.length=n/\e = .ret (.tup [])/\(⟨Y.B.take 0,Y.T.take 1⟩:St)=vz L')) (cD 0 args) (vz L))
  (hb:fn.body=some c:=by exact rfl) (r:fn.ntmps=N:=by exact rfl) (j:(fn.name == "runtime.NumGoroutine")=false:=by exact rfl) (i:Nat.ble args.length N=true:=by exact rfl) (k:fn.results=([].map ResultVar.tmp).toArray:=by exact rfl):SE P f n args:=λL q=>by
 by_cases hr:BA N [] (cD 0 args) (vz L)
 ·obtain⟨e,s', Y,hk,O⟩:=h L q hr
  have p:∀L': List A4,L'.length=n->(⟨Y.B.take 0,Y.T.take 1⟩:St)=vz L'-> (e = .normal\/e = .ret)->∃L': List A4,L'.length=n/\AI P f args (vz L) (λe H=>e = .ret (.tup [])/\H=vz L'):=λL' m o he=>
   ⟨L', m,kQ (AI.enter [] hf hb r j i k Wb (O.mono λe1 y d ⟨a,b,c⟩=>by
    subst a b c
    have u:∃v nB mT,Av.ret (gG y []) = .ret v/\0<=nB/\1<=mT/\v.ab nB mT=true/\aQ nB mT (d.B.take nB)=true/\aL nB mT (d.T.take mT)=true/\(Av.ret v = .ret (.tup [])/\(⟨d.B.take nB,d.T.take mT⟩:St)=vz L'):=
     ⟨_,0,1,rfl,le_refl _,le_refl _,rfl,by rw[show d.B.take 0=[] from congrArg St.B o];rfl,by rw[show d.T.take 1=_ from congrArg St.T o];simp only[aL,Tok.ab,yP,Bool.and_true],rfl,o⟩
    rcases he with rfl|rfl<;>exact u))⟩
  cases e with
  |normal=>obtain⟨L', m,_,h3⟩:=hk;exact p L' m h3 (.inl rfl)
  |ret=>obtain⟨L', m,_,h3⟩:=hk;exact p L' m h3 (.inr rfl)
  |pan x=>obtain⟨L', _,o,_⟩:=hk;cases o
  |exit id=>exact hk.elim
  |goto l=>exact hk.elim
 ·exact⟨L,q,AI.enter [] hf hb r j i k Wb λg w t X hs m o=>absurd ⟨g,w,t,X,hs,m,o⟩ hr⟩
def AD.vk{A:Array Oper}{G:Bool}{l:List Oper}{I:List Aj}{Q:Prop}(q:Q)(h:BY Q->AD P A G K l I s H:=by intro q;(first|refine .vI ?_|refine .vL ?_|refine .vS ?_|refine .vC ?_|refine .c6 ?_|refine .c7 ?_|refine .hf ?_|refine .ml ?_|fail);exact q.val):AD P A G K l I s H:=h ⟨q⟩
theorem cs(h:p:=by first|exact es|exact sn (_,_)|exact sn _|(exfalso;omega)|fail):p:=h
end
end Go.Av
namespace Go.Proofs.YtimbiifcnhgcoaaGreatDoor
open Go Go.Av Go.Proofs.Tryz
attribute [local irreducible] AB AD AN AI Av.AU AZ EX Int.le Int.lt Int.decLe Int.decLt Int.decEq SE
variable {N:Nat}
theorem Di:aCq prog:=λa b=>⟨_,TX a b⟩
def aCr(d:N<=1048576)(a b n:Int)(h:0<=a/\0<=b/\0<=n/\a+n<=N/\b+n<=N):SE prog 304 N [vv N, .int .i64 a, .int .i64 b, .int .i64 n,fcl]:=by
 refine se func304 λL c=> ?_
 repeat' first|intro _|refine .vk ?_|refine .v ?_|refine .qd ?_ ?_|refine .qe ?_ ?_|refine .qn ?_ ?_|refine .gd ?_ ?_|refine .z ?_ ?_|exact cs|fail
 refine .sl (λi:Int=>0<=i) (λi=>[(10, .int .i64 i),(0,vv N),(1, .int .i64 a),(2, .int .i64 b),(3, .int .i64 n)]) (λi=>(n-i).toNat) 0 ?_
 repeat' first|intro _|refine .vk ?_|refine .v ?_|refine .qd ?_ ?_|refine .qe ?_ ?_|refine .qn ?_ ?_|refine .gd ?_ ?_|refine .z ?_ ?_|exact cs|fail
def aCs(c:N<=1048576)(a m b:Int)(h:0<=a/\a<m/\m<b/\b<=N):SE prog 256 N [vv N, .int .i64 a, .int .i64 m, .int .i64 b,fcl]:=by
 refine se func256 λL d=> ?_
 repeat' first|intro _|refine .vk ?_|refine .v ?_|refine .qd ?_ ?_|refine .qe ?_ ?_|refine .qn ?_ ?_|refine .gd ?_ ?_|refine .z ?_ ?_|exact cs|fail
 refine .s2 (λi j=>0<i/\0<j/\i<=m/\m+j<=N) (λi j=>[(10, .int .i64 i),(11, .int .i64 j),(0,vv N),(2, .int .i64 m),(4,fcl)]) (λi j=>(i+j).toNat) (m-a) (b-m) ?_
 repeat' first|intro _|refine .vk ?_|refine .sc ?_ (hp:=aCr c _ _ _ om)|refine .v ?_|refine .qd ?_ ?_|refine .qe ?_ ?_|refine .qn ?_ ?_|refine .gd ?_ ?_|refine .z ?_ ?_|exact cs|fail
def aEK(d:N<=1048576)(a b:Int)(h:0<=a/\a<=b/\b<=N):SE prog 190 N [vv N, .int .i64 a, .int .i64 b,fcl]:=by
 have O:=Di;refine se func190 λL c=> ?_
 repeat' first|intro _|refine .vk ?_|refine .v ?_|refine .qd ?_ ?_|refine .qe ?_ ?_|refine .qn ?_ ?_|refine .gd ?_ ?_|refine .z ?_ ?_|exact cs|fail
 refine .sl (λi:Int=>a+1<=i) (λi=>[(8, .int .i64 i),(0,vv N),(1, .int .i64 a),(2, .int .i64 b),(3,fcl)]) (λi=>(b-i).toNat) (a+1) ?_;intro i X L c
 repeat' first|intro _|refine .vk ?_|refine .v ?_|refine .qd ?_ ?_|refine .qe ?_ ?_|refine .qn ?_ ?_|refine .gd ?_ ?_|refine .z ?_ ?_|exact cs|fail
 refine .sl (λj:Int=>a<=j/\j<b) (λj=>[(9, .int .i64 j),(8, .int .i64 i),(0,vv N),(1, .int .i64 a),(2, .int .i64 b),(3,fcl)]) (λj=>(j-a).toNat) i ?_
 repeat' first|intro _|refine .vk ?_|refine .v ?_|refine .qd ?_ ?_|refine .qe ?_ ?_|refine .qn ?_ ?_|refine .gd ?_ ?_|refine .z ?_ ?_|exact cs|fail
def eSm(c:N<=1048576):∀(k:Nat) (a m b:Int),0<=a/\a<m/\m<b/\b<=N->b-a<=k->SE prog 191 N [vv N, .int .i64 a, .int .i64 m, .int .i64 b,fcl]
 |0,a,m,b,h,hk=>by omega
 |k+1,a,m,b,h,hk=>by
  have O:=Di
  have E:=eSm c k
  refine se func191 λL d=> ?_
  repeat' first|intro _|refine .vk ?_|refine .v ?_|refine .qd ?_ ?_|refine .qe ?_ ?_|refine .qn ?_ ?_|refine .gd ?_ ?_|refine .z ?_ ?_|exact cs|fail
  ·refine .s2 (λi j=>m<=i/\i<=j/\j<=b) (λi j=>[(10, .int .i64 i),(11, .int .i64 j),(0,vv N),(1, .int .i64 a),(4,fcl)]) (λi j=>(j-i).toNat) m b ?_
   repeat' first|intro _|refine .vk ?_|refine .v ?_|refine .qd ?_ ?_|refine .qe ?_ ?_|refine .qn ?_ ?_|refine .gd ?_ ?_|refine .z ?_ ?_|exact cs|fail
   rename_i i j _ _ _ _ _
   refine .sl (λt:Int=>a<=t) (λt=>[(13, .int .i64 t),(10, .int .i64 i),(0,vv N)]) (λt=>(i-t).toNat) a ?_
   repeat' first|intro _|refine .vk ?_|refine .v ?_|refine .qd ?_ ?_|refine .qe ?_ ?_|refine .qn ?_ ?_|refine .gd ?_ ?_|refine .z ?_ ?_|exact cs|fail
  ·refine .s2 (λi j=>a<=i/\i<=j/\j<=m) (λi j=>[(14, .int .i64 i),(15, .int .i64 j),(0,vv N),(2, .int .i64 m),(4,fcl)]) (λi j=>(j-i).toNat) a m ?_
   repeat' first|intro _|refine .vk ?_|refine .v ?_|refine .qd ?_ ?_|refine .qe ?_ ?_|refine .qn ?_ ?_|refine .gd ?_ ?_|refine .z ?_ ?_|exact cs|fail
   rename_i i j _ _ _ _ _
   refine .sl (λt:Int=>t<=m) (λt=>[(17, .int .i64 t),(14, .int .i64 i),(0,vv N)]) (λt=>(t-i).toNat) m ?_
   repeat' first|intro _|refine .vk ?_|refine .v ?_|refine .qd ?_ ?_|refine .qe ?_ ?_|refine .qn ?_ ?_|refine .gd ?_ ?_|refine .z ?_ ?_|exact cs|fail
  ·refine .s2 (λi j=>(a+b)/2+m-b<=i/\i<=j/\j<=(a+b)/2) (λi j=>[(20, .int .i64 i),(21, .int .i64 j),(22, .int .i64 ((a+b)/2+m-1)),(18, .int .i64 ((a+b)/2)),(19, .int .i64 ((a+b)/2+m)),(0,vv N),(1, .int .i64 a),(2, .int .i64 m),(3, .int .i64 b),(4,fcl)]) (λi j=>(j-i).toNat) ((a+b)/2+m-b) ((a+b)/2) ?_
   repeat' first|intro _|refine .vk ?_|refine .sc ?_ (hp:=aCs c _ _ _ om)|refine .sc ?_ (hp:=E _ _ _ om om)|refine .v ?_|refine .qd ?_ ?_|refine .qe ?_ ?_|refine .qn ?_ ?_|refine .gd ?_ ?_|refine .z ?_ ?_|exact cs|fail
  ·refine .s2 (λi j=>a<=i/\i<=j/\j<=m) (λi j=>[(20, .int .i64 i),(21, .int .i64 j),(22, .int .i64 ((a+b)/2+m-1)),(18, .int .i64 ((a+b)/2)),(19, .int .i64 ((a+b)/2+m)),(0,vv N),(1, .int .i64 a),(2, .int .i64 m),(3, .int .i64 b),(4,fcl)]) (λi j=>(j-i).toNat) (a) (m) ?_
   repeat' first|intro _|refine .vk ?_|refine .sc ?_ (hp:=aCs c _ _ _ om)|refine .sc ?_ (hp:=E _ _ _ om om)|refine .v ?_|refine .qd ?_ ?_|refine .qe ?_ ?_|refine .qn ?_ ?_|refine .gd ?_ ?_|refine .z ?_ ?_|exact cs|fail
end Go.Proofs.YtimbiifcnhgcoaaGreatDoor
namespace Go.Proofs.YtimbiifcnhgcoaaGreatDoor
open Go Go.Av Go.Proofs.Tryz
attribute [local irreducible] AB AD AN AI Av.AU AZ EX Int.le Int.lt Int.decLe Int.decLt Int.decEq
variable {N:Nat}
def UM(c:N<=1048576):SE prog 121 N [vv N, .int .i64 N,fcl]:=by
 refine se func121 λL d=> ?_
 repeat' first|intro _|refine .vk ?_|refine .v ?_|refine .qd ?_ ?_|refine .qe ?_ ?_|refine .qn ?_ ?_|refine .gd ?_ ?_|exact cs|fail
 refine .s2 (λa b=>0<=a/\a<=N/\b=a+20) (λa b=>[(7, .int .i64 a),(8, .int .i64 b),(6, .int .i64 20),(0,vv N),(1, .int .i64 N),(2,fcl)]) (λa b=>(N-a).toNat) 0 20 ?_
 repeat' first|intro _|refine .vk ?_|refine .sc ?_ (hp:=aEK c _ _ om)|refine .v ?_|refine .qd ?_ ?_|refine .qe ?_ ?_|refine .qn ?_ ?_|refine .gd ?_ ?_|exact cs|fail
 refine .sl (λw:Int=>0<w) (λw=>[(6, .int .i64 w),(0,vv N),(1, .int .i64 N),(2,fcl)]) (λw=>(N-w).toNat) 20 ?_;intro w hw L d
 repeat' first|intro _|refine .vk ?_|refine .v ?_|refine .qd ?_ ?_|refine .qe ?_ ?_|refine .qn ?_ ?_|refine .gd ?_ ?_|exact cs|fail
 refine .s2 (λa b=>0<=a/\a<=N/\b=a+2 * w) (λa b=>[(7, .int .i64 a),(8, .int .i64 b),(6, .int .i64 w),(0,vv N),(1, .int .i64 N),(2,fcl)]) (λa b=>(N-a).toNat) 0 (2 * w) ?_
 repeat' first|intro _|refine .vk ?_|refine .sc ?_ (hp:=eSm c N _ _ _ om om)|refine .v ?_|refine .qd ?_ ?_|refine .qe ?_ ?_|refine .qn ?_ ?_|refine .gd ?_ ?_|exact cs|fail
def aCt(a:N<=1048576):SE prog 68 N [vv N,fcl]:=by
 refine se func68 λL b=> ?_
 repeat' first|intro _|refine .vk ?_|refine .vl ?_|refine .sc ?_ (hp:=UM a)|refine .v ?_|refine .qd ?_ ?_|refine .qe ?_ ?_|refine .qn ?_ ?_|refine .gd ?_ ?_|exact cs|fail
def ePS(l:List A4)(i:l.length<=1048576)(ha:∀f∈l,f.path.length<=1048576):∃G:List A4,G.length=l.length/\AN prog 30 [Flts.C l] (Flts.C G):=by
 obtain⟨G,b,g⟩:=aCt i l rfl;refine⟨G,b, ?_⟩;refine jF (Flts.K _) (by simp[aA,Flts.K]) (aS [2] func30 ?_)
 repeat' first|refine .seq ?_|refine .rg ?_|refine .rd ?_|refine .block ?_|refine .scope ?_|refine .skip ?_|refine .label ?_|refine .exit ?_|refine .ret ?_|refine .ct ?_|refine .cf ?_|refine .cy ?_|refine .cn ?_|(refine .cond rfl ?_ ?_<;>intro O)|refine cT ?_|refine .nl ?_|refine .dd ?_|refine .ys ?_|refine .no ?_|(refine fH rfl ?_ ?_<;>intro O)|refine .lb ?_|refine .ln ?_|refine .ls ?_|refine .pv ?_|refine .ix ?_|refine .pt ?_|refine .pf ?_|refine .bx ?_|refine .al ?_|refine .st ?_|refine .ad ?_|refine .sb ?_|refine .mf ?_|refine .cl ?_|refine .cw ?_|refine .ck ?_|fail
 change AB _ _ _ _ _ _ _;refine b8 3 rfl (kA (z:=2) rfl rfl rfl) ?_;refine AB.loop (λn s H=>∃k:Nat,n=l.length-k/\k<=l.length/\H=⟨[],[.aa ((l.take k).map A4.C)]⟩/\s=[(8, .int .i64 k),(7, .int .i64 l.length),(6,Flts.C l),(3, .aa 0 2 k 0 k)])
  (s0:=[(8, .int .i64 (0:Nat)),(7, .int .i64 l.length),(6,Flts.C l),(3, .aa 0 2 0 0 0)])
  Z9 ⟨0,rfl,zero_le _,rfl,rfl⟩ ?_
 rintro n s H ⟨k,rfl,hk,rfl,rfl⟩;have c:((l.take k).map A4.C).length=k:=Wl
 by_cases a:k<l.length
 ·have h:decide ((k:Int)<(l.length:Int))=true:=by simp[a]
  have x1:=Jy (f:=A4.C) a;have O:=PJ l[k].path (ha _ (getElem_mem a))
  repeat' first|refine .seq ?_|refine .rg ?_|refine .rd ?_|refine .block ?_|refine .scope ?_|refine .skip ?_|refine .label ?_|refine .exit ?_|refine .ret ?_|refine .ct ?_|refine .cf ?_|refine .cy ?_|refine .cn ?_|(refine .cond rfl ?_ ?_<;>intro O)|refine cT ?_|refine .nl ?_|refine .dd ?_|refine .ys ?_|refine .no ?_|(refine fH rfl ?_ ?_<;>intro O)|refine .lb ?_|refine .ln ?_|refine .ls ?_|refine .pv ?_|refine .ix ?_|refine .pt ?_|refine .pf ?_|refine .bx ?_|refine .al ?_|refine .st ?_|refine .ad ?_|refine .sb ?_|refine .mf ?_|refine .cl ?_|refine .cw ?_|refine .ck ?_|refine aH rfl O (aB _) ?_|refine eG (m:=k+1) rfl rfl rfl rfl rfl rfl rfl rfl c rfl rfl Wg om rfl ?_|fail
  refine⟨l.length-(k+1),om,[(8, .int .i64 ((k+1:Nat):Int)),(7, .int .i64 l.length),(6,Flts.C l),(3, .aa 0 2 (k+1) 0 (k+1))],
   Z9,by simp[aM,AV.ab,Flts.C,yP], ?_,k+1,rfl,om, ?_,rfl⟩
  ·have hp:=yP 0 1 (l.take k);have hs:=N6 0 1 l[k].path;simp[-List.map_take,aQ,aL,Ob.ab,Tok.ab,aE,AV.ab,Ih,hp,hs,Ab.C]
  ·rw[<-MG A4.C a];rfl
 ·have h:decide ((k:Int)<(l.length:Int))=false:=by simp;omega
  have d:k=l.length:=om
  subst d;have e:l.take l.length=l:=List.take_length;rw[e]
  repeat' first|refine .seq ?_|refine .rg ?_|refine .rd ?_|refine .block ?_|refine .scope ?_|refine .skip ?_|refine .label ?_|refine .exit ?_|refine .ret ?_|refine .ct ?_|refine .cf ?_|refine .cy ?_|refine .cn ?_|(refine .cond rfl ?_ ?_<;>intro O)|refine cT ?_|refine .nl ?_|refine .dd ?_|refine .ys ?_|refine .no ?_|(refine fH rfl ?_ ?_<;>intro O)|refine .lb ?_|refine .ln ?_|refine .ls ?_|refine .pv ?_|refine .ix ?_|refine .pt ?_|refine .pf ?_|refine .bx ?_|refine .al ?_|refine .st ?_|refine .ad ?_|refine .sb ?_|refine .mf ?_|refine .cl ?_|refine .cw ?_|refine .ck ?_|refine Jj 0 rfl g rfl rfl (nK _) (nK _) rfl (aB _) rfl rfl ?_|fail
  exact⟨_,_,rfl,(cA rfl X9 rfl).trans (AK.a7 (AC.no (AA.eq (by rw[List.drop_zero,List.take_of_length_le X9]))))⟩
end Go.Proofs.YtimbiifcnhgcoaaGreatDoor
namespace Go.Proofs.YtimbiifcnhgcoaaGreatDoor
open Go Go.Av Go.Proofs.Tryz
attribute [local irreducible] AB AD AN AI Av.AU AZ
def aAr(F:List A0)(c:F.length<=4096)(hp:∀f∈F,f.path.length<=4096):∃G:List A0,G.length=F.length/\AN prog 30 [.slice (F.map A0.C) .no] (.slice (G.map A0.C) .no):=by
 obtain⟨G,a,b⟩:=ePS (F.map Nu) WF (λf hf=>by obtain⟨x,hx,rfl⟩:=List.mem_map.1 hf;exact le_trans (hp x hx) Wd)
 have e:(G.map λf=>(⟨f.path,f.e⟩:A0)).map A0.C=G.map A4.C:=by rw[List.map_map];rfl
 exact⟨G.map λf=>⟨f.path,f.e⟩,by rw[length_map,a,length_map],by rw[e,Gk];exact b⟩
def wX(c:BS)(o:Ak)(A:List AF):Nd×AS:=bV c.s c.d A 401 (decide (o.kind=1)) (aW c.s o) cJ o.O [] false ⟨c.L,[],if o.kind=1 then [] else [[]],0⟩
def aEL(c:BS)(o:Ak)(A:List AF)(k:OpOk c o A):(∀G:List A0,AN prog 30 [.slice ((wX c o A).2.F.map A0.C) .no] (.slice (G.map A0.C) .no)->AN prog 6 [c.s.C,c.d.C,o.C, .slice (A.map AF.C) .no,Tbls.C c.L] (EK (upM (wX c o A).1).1 G (wX c o A).2.R (wX c o A).2.L))/\
  (wX c o A).2.F.length<=4096/\(∀f∈(wX c o A).2.F,f.path.length<=4096)/\(o.kind≠1->(wX c o A).2.R.length=1/\(wX c o A).2.L=c.L):=by
 have e:=oN k.served;have a:=k.cnt;have hT:BT c.L:=(Iw k.bj k.cr (u:=c.s.query) (oN k.served _ (D0 k.served) · |>.1)).bz 0 c.L (k.b8.mono Wd);unfold wX;by_cases j:o.kind=1
 ·rw[if_pos j,decide_eq_true j];have ht:aW c.s o=c.s.av:=by unfold aW;rw[if_pos j]
  obtain⟨hf,hno⟩:=Ix k.served;rw[<-ht]at hf hno;have b:=LI c.s e c.d A 400 (aW c.s o) cJ o.O [] false ⟨c.L,[],[],0⟩ ⟨c.L,0⟩ hf rfl (by show 401<=400+1+0;omega) a;have i:=zT c.s c.d A 401 true (aW c.s o) cJ o.O [] false ⟨c.L,[],[],0⟩ (le_refl _);have hW:=zQ k.bj k.cr k.served o;have O:(bV c.s c.d A (400+1) true (aW c.s o) cJ o.O [] false ⟨c.L,[],[],0⟩).2.c<=400:=by have:(oZ c.s c.d A (400+1) (aW c.s o) cJ o.O ⟨c.L,0⟩).n<=400:=a;dsimp only at b;omega
  have q:=Gu c.s c.d A k.bj 400 (aW c.s o) B9 hW hno 1 _ (λg v=>p5 c.s c.d A k.bj (aW c.s o) k.O g v) (AS.ah ⟨c.L,[],[],0⟩) ⟨zero_le _,zero_le _,k.b8.mono Zm⟩ O (bF c.s c.d A (aW c.s o) o.O).length (le_refl _);rw[List.take_length]at q;have l:(bV c.s c.d A (400+1) true (aW c.s o) cJ o.O [] false ⟨c.L,[],[],0⟩).2.F.length<=400:=le_trans q.1.F (by have:(bX (fmT c.s c.d A 400 (aW c.s o)) (bF c.s c.d A (aW c.s o) o.O) (AS.ah ⟨c.L,[],[],0⟩)).2.c<=400:=O;exact this);have m:∀f∈(bV c.s c.d A (400+1) true (aW c.s o) cJ o.O [] false ⟨c.L,[],[],0⟩).2.F,f.path.length<=400:=λf p=>by
   rcases i.f f p with h1|h1
   ·cases h1
   ·exact le_trans h1 O
  exact⟨λG r=>aCp c.s c.d A o c.L 400 k.bj j k.loops k.O B9 hW hno (k.b8.mono Wd) O G r,le_trans l Wd,λf hf=>le_trans (m f hf) Wd,λh=>absurd j h⟩
 ·rw[if_neg j,decide_eq_false j];have ht:aW c.s o=c.s.query:=by unfold aW;rw[if_neg j]
  have t:DZ c.s (aW c.s o):=by rw[ht];exact D0 k.served
  have b:=Hi c.s e c.d A 401 (aW c.s o) cJ o.O [] false ⟨c.L,[],[[]],0⟩ ⟨c.L,0⟩ t rfl (by show 401<=401+0;omega) a;have i:=zT c.s c.d A 401 false (aW c.s o) cJ o.O [] false ⟨c.L,[],[[]],0⟩ (zero_le _);have h0:At ⟨c.L,[],[[]],0⟩:=⟨le_refl _,Wb,zero_le _,(by show 1<=1048576;decide),hT⟩;have hk:=nZ c.s c.d A 401 (aW c.s o) cJ o.O [] false _ h0;have O:(bV c.s c.d A (400+1) false (aW c.s o) cJ o.O [] false ⟨c.L,[],[[]],0⟩).2.c<=400:=by have:(oZ c.s c.d A 401 (aW c.s o) cJ o.O ⟨c.L,0⟩).n<=400:=a;dsimp only at b;exact le_trans (le_trans (Nat.le_add_right _ _) b) om
  have l:(bV c.s c.d A (400+1) false (aW c.s o) cJ o.O [] false ⟨c.L,[],[[]],0⟩).2.F.length<=400:=le_trans hk.ok.F O;have m:∀f∈(bV c.s c.d A (400+1) false (aW c.s o) cJ o.O [] false ⟨c.L,[],[[]],0⟩).2.F,f.path.length<=400:=λf p=>by
   rcases i.f f p with h1|h1
   ·cases h1
   ·exact le_trans h1 O
  exact⟨λG r=>VF c.s c.d A o c.L 400 k.bj j k.loops k.O hT (le_trans O Wd) G r,le_trans l Wd,λf hf=>le_trans (m f hf) Wd,λ_=>⟨hk.R,hk.L⟩⟩
def E7:AG:=[81,117,101,114,121]
def DV:AG:=[85,115,101,114]
def GS:AG:=[97,103,101]
def aCu:AO:=⟨[103,101,116],[.mk [116,97,98,108,101] (iF [117]), .mk [97,114,103] (iF [105,100])]⟩
def Qc:Ag:=⟨[117,115,101,114],[⟨[105,100],⟨[73,68],0,0⟩,false,bP⟩],⟨DV,0,0⟩,[aCu]⟩
def UN:Ag:=⟨GS,[],⟨[73,110,116],0,0⟩,[]⟩
def jK:AJ:=⟨[⟨1,E7,[],[Qc],[],[]⟩,⟨1,DV,[],[UN],[],[]⟩],E7,[]⟩
def tH:Row:=⟨[97],DV,[.mk GS (.mk 2 7 [] [] [])],false⟩
def qF:List AY:=[⟨[117],[tH]⟩]
def E8:Sl := .mk 0 [] GS [] [] [] []
def yL:Sl := .mk 0 [] [117,115,101,114] [.mk [105,100] (iF [97])] [] [] [E8]
def HH:Ak:=⟨0,[],[],[],[yL]⟩
def lQ:AR:=⟨[HH],[]⟩
def DW{str:AG}{t1 t2:Tk}:AC (.agg [.str name, .int .i64 4, .int .i64 0, .str str, .slice [] t1, .slice [] t2]) (AF.mk name (iF str)).C:=by unfold AF.C iF;show AC _ (.agg [.str name, .int .i64 4, .int .i64 0, .str str, .slice (AH.mk 4 0 str [] []).lv .no, .slice (AH.mk 4 0 str [] []).mv .no]);rw[sA,wO];exact AC.agg (AA.cons (aG _) (AA.cons (aG _) (AA.cons (aG _) (AA.cons (aG _) (AA.cons (AC.no (aB _)) (AA.cons (AC.no (aB _)) (aB _)))))))
def Qd{n:Int}{t1 t2:Tk}:AC (.agg [.str name, .int .i64 2, .int .i64 n, .str [], .slice [] t1, .slice [] t2]) (AF.mk name (.mk 2 n [] [] [])).C:=by unfold AF.C;show AC _ (.agg [.str name, .int .i64 2, .int .i64 n, .str [], .slice (AH.mk 2 n [] [] []).lv .no, .slice (AH.mk 2 n [] [] []).mv .no]);rw[sA,wO];exact AC.agg (AA.cons (aG _) (AA.cons (aG _) (AA.cons (aG _) (AA.cons (aG _) (AA.cons (AC.no (aB _)) (AA.cons (AC.no (aB _)) (aB _)))))))
def aAs:AN prog 16 [] (.tup [jK.C,Tbls.C qF]):=by
 refine AI.plain (by simp[AV.K,aA,AJ.K,Tbls.K]) rfl (cE [.cell 0 24, .tmp 1] func16 ?_)
 repeat' first|refine .s1 ?_|(refine .q ?_ ?_<;>intro O)|fail
 exact aI rfl (AC.tup (AA.cons (AC.agg (AA.cons (AC.no (AA.cons (AC.agg (AA.cons (aG _) (AA.cons (aG _) (AA.cons (AC.no (aB _)) (AA.cons (AC.no (AA.cons (AC.agg (AA.cons (aG _) (AA.cons (AC.no (AA.cons (AC.agg (AA.cons (aG _) (AA.cons (aG _) (AA.cons (aG _) (AA.cons (aG _) (AA.cons (aG _) (AA.cons (aG _) (AA.cons (aG _) (AA.cons (aG _) (AA.cons (AC.no (AA.eq (sA _ _ _ _).symm)) (AA.cons (AC.no (AA.eq (wO _ _ _ _).symm)) (aB _)))))))))))) (aB _))) (AA.cons (aG _) (AA.cons (aG _) (AA.cons (aG _) (AA.cons (AC.no (AA.cons (AC.agg (AA.cons (aG _) (AA.cons (AC.no (AA.cons DW (AA.cons DW (aB _)))) (aB _)))) (aB _))) (aB _)))))))) (aB _))) (AA.cons (AC.no (aB _)) (AA.cons (AC.no (aB _)) (aB _)))))))) (AA.cons (AC.agg (AA.cons (aG _) (AA.cons (aG _) (AA.cons (AC.no (aB _)) (AA.cons (AC.no (AA.cons (AC.agg (AA.cons (aG _) (AA.cons (AC.no (aB _)) (AA.cons (aG _) (AA.cons (aG _) (AA.cons (aG _) (AA.cons (AC.no (aB _)) (aB _)))))))) (aB _))) (AA.cons (AC.no (aB _)) (AA.cons (AC.no (aB _)) (aB _)))))))) (aB _)))) (aB _))) (AA.cons (AC.no (AA.cons (AC.agg (AA.cons (aG _) (AA.cons (AC.no (AA.cons (AC.agg (AA.cons (aG _) (AA.cons (aG _) (AA.cons (AC.no (AA.cons Qd (aB _))) (aB _))))) (aB _))) (aB _)))) (aB _))) (aB _))))
def UO:AN prog 17 [] lQ.C:=by
 refine AI.plain (AR.K _) rfl (cE [.cell 0 28] func17 ?_)
 repeat' first|refine .s1 ?_|(refine .q ?_ ?_<;>intro O)|fail
 exact aI rfl (AC.agg (AA.cons (AC.no (AA.cons (AC.agg (AA.cons (aG _) (AA.cons (aG _) (AA.cons (AC.no (aB _)) (AA.cons (AC.no (aB _)) (AA.cons (AC.no (AA.cons (AC.agg (AA.cons (aG _) (AA.cons (aG _) (AA.cons (aG _) (AA.cons (AC.no (AA.cons DW (aB _))) (AA.cons (AC.no (aB _)) (AA.cons (aG _) (AA.cons (AC.no (AA.cons (AC.agg (AA.cons (aG _) (AA.cons (aG _) (AA.cons (aG _) (AA.cons (AC.no (aB _)) (AA.cons (AC.no (aB _)) (AA.cons (aG _) (AA.cons (AC.no (aB _)) (aB _))))))))) (aB _))) (aB _))))))))) (aB _))) (aB _))))))) (aB _))) (AA.cons (AC.no (aB _)) (aB _))))
def SG:AG:=[117,115,101,114]
def sH:AG:=[117]
def sI:AG:=[97]
def UP:AH := .mk 7 0 [] [] [.mk SG (.mk 7 0 [] [] [.mk GS (.mk 2 7 [] [] [])])]
def ndA:Nd := .mk 2 false bP [GS] [lL false (.mk 2 7 [] [] [])]
def ndW:Nd := .mk 2 false bP [SG] [ndA]
theorem aCv(s:AJ)(x:Sl)(a:iT [] x.ar=true)(b:x.kind=0)(u:AG):bF s lQ [] u [x]=[⟨jH x,[x]⟩]:=by unfold bF;rw[gD,fL];unfold jN;rw[if_neg (by rw[a];decide),if_pos b];rfl
theorem aEM:ofB jK E7 Qc=(⟨2,sH,[],[105,100],[]⟩,true):=Xe
theorem aEN:ofB jK DV UN=(⟨0,[],GS,[],[]⟩,true):=Xe
theorem aCw:aK jK E7 yL.name=(Qc,true):=rfl
theorem aCx:aK jK DV E8.name=(UN,true):=rfl
theorem aAt:dU jK Qc.params yL.args []=(yL.args,0):=by rfl
theorem aAu:dU jK UN.params E8.args []=([],0):=by rfl
def aAv(n:Nat)(p:Ab)(R:List (List Ae))(c:Nat):bV jK lQ [] (n+1) false DV tH [E8] p false ⟨qF,[],R,c⟩=(ndA,⟨qF,[],R,c+3⟩):=by
 have e:bV jK lQ [] (n+1) false DV tH [E8] p false ⟨qF,[],R,c⟩=(.mk 2 false bP ((bF jK lQ [] DV [E8]).map AT.key) (bX (λg st=>b6 jK lQ [] (bV jK lQ [] n false) false DV tH g (p++[⟨g.key,0⟩]) st) (bF jK lQ [] DV [E8]) (AS.ah ⟨qF,[],R,c⟩)).1,
  (bX (λg st=>b6 jK lQ [] (bV jK lQ [] n false) false DV tH g (p++[⟨g.key,0⟩]) st) (bF jK lQ [] DV [E8]) (AS.ah ⟨qF,[],R,c⟩)).2):=rfl
 rw[e,aCv jK E8 rfl rfl];have hf:∀p st,b6 jK lQ [] (bV jK lQ [] n false) false DV tH ⟨jH E8,[E8]⟩ p st=(lL false (.mk 2 7 [] [] []),st.ah.ah):=λp st=>by unfold b6;dsimp only[List.headD];rw[if_neg Wd,aCx];dsimp only;rw[aAu];dsimp only;rw[if_neg Wd,aEN];rfl
 rw[bX,bX];dsimp only;rw[hf];rfl
def aEO(n:Nat):bV jK lQ [] (n+2) false E7 cJ [yL] [] false ⟨qF,[],[[]],0⟩=(ndW,⟨qF,[],[[⟨sH,sI⟩]],6⟩):=by
 have e:bV jK lQ [] (n+2) false E7 cJ [yL] [] false ⟨qF,[],[[]],0⟩=(.mk 2 false bP ((bF jK lQ [] E7 [yL]).map AT.key) (bX (λg st=>b6 jK lQ [] (bV jK lQ [] (n+1) false) false E7 cJ g ([]++[⟨g.key,0⟩]) st) (bF jK lQ [] E7 [yL]) (AS.ah ⟨qF,[],[[]],0⟩)).1,
  (bX (λg st=>b6 jK lQ [] (bV jK lQ [] (n+1) false) false E7 cJ g ([]++[⟨g.key,0⟩]) st) (bF jK lQ [] E7 [yL]) (AS.ah ⟨qF,[],[[]],0⟩)).2):=rfl
 rw[e,aCv jK yL rfl rfl];have hf:∀p,b6 jK lQ [] (bV jK lQ [] (n+1) false) false E7 cJ ⟨jH yL,[yL]⟩ p (AS.ah ⟨qF,[],[[]],0⟩)=(ndA,⟨qF,[],[[⟨sH,sI⟩]],6⟩):=λp=>by unfold b6;dsimp only[List.headD];rw[if_neg Wd,aCw];dsimp only;rw[aAt];dsimp only;rw[if_neg Wd,aEM];dsimp only;rw[if_neg Wd,if_pos rfl];have b:(bT [105,100] yL.args).1=iF sI:=rfl;have hb:bO [yL]=[E8]:=rfl;rw[b,hb];unfold iF;rw[dD];dsimp only;rw[if_neg Wd,if_neg Wd,if_neg Wd,if_neg Wd];have a:cP (AS.ah (AS.ah (AS.ah ⟨qF,[],[[]],0⟩))).L ⟨sH,sI⟩=⟨tH,true,0⟩:=rfl;rw[a];unfold xB;dsimp only;rw[if_neg Wd,if_neg Wd,if_neg Wd];exact aAv n p _ 3
 rw[bX,bX];dsimp only;rw[hf];rfl
theorem upW:(upM ndW).1=UP:=by unfold ndW ndA lL;simp[upM,upP,UP]
def aAw:oU lQ=false:=rfl
def Nb:AV := .fn (.func 69) [] []
def aEP:AN prog 190 [.slice [] .no, .int .i64 0, .int .i64 0,Nb] (.tup []):=by
 refine AI.plain rfl rfl (aS [] func190 ?_);refine .go ?_;refine bK 0 (λ_=>[(8, .int .i64 1),(2, .int .i64 0)]) (λ_=>⟨[],[]⟩) (λ_=>True) Z9 rfl trivial λk hk _=> ?_
 have a:decide ((1:Int)<0)=false:=rfl;refine .go ?_;exact⟨_,rfl,aG _⟩
def UQ:AN prog 121 [.slice [] .no, .int .i64 0,Nb] (.tup []):=by
 have h:=aEP;refine AI.plain rfl rfl (aS [] func121 ?_);have a:decide ((20:Int)<=0)=false:=rfl;have b:decide ((20:Int)<0)=false:=rfl;refine .go ?_;refine bK 0 (λ_=>[(8, .int .i64 20),(7, .int .i64 0),(6, .int .i64 20),(2,Nb),(1, .int .i64 0),(0, .slice [] .no)]) (λ_=>⟨[],[]⟩) (λ_=>True) Z9 rfl trivial λk hk _=> ?_
 refine .go ?_;refine bK 0 (λ_=>[(6, .int .i64 20),(2,Nb),(1, .int .i64 0),(0, .slice [] .no)]) (λ_=>⟨[],[]⟩) (λ_=>True) Z9 rfl trivial λk hk _=> ?_
 refine .go ?_;exact⟨_,rfl,aG _⟩
def aAx:AN prog 68 [.slice [] .no,Nb] (.tup []):=by have h:=UQ;refine AI.plain rfl rfl (aS [] func68 ?_);refine .go ?_;exact⟨_,rfl,aG _⟩
def aCy:AN prog 30 [.slice [] .no] (.slice [] .no):=by
 have h:=aAx;have hw:AA [.slice [] .nil,Nb] [.slice [] .no,Nb]:=AA.cons (AC.no (aB _)) (aB _);refine AI.plain rfl rfl (aS [2] func30 ?_);have a:decide ((0:Int)<0)=false:=rfl;refine .go ?_;refine bK 0 (λ_=>[(8, .int .i64 0),(7, .int .i64 0),(3, .slice [] .nil)]) (λ_=>⟨[],[]⟩) (λ_=>True) Z9 rfl trivial λk hk _=> ?_
 repeat' first|refine aH rfl h hw ?_|refine .s1 ?_|(refine .q ?_ ?_<;>intro O)|fail
 exact aP rfl (AC.no (aB _))
def GT(x:AG):(iF x).ok:=by unfold iF;rw[AH.ok];exact⟨Wd,Wd,by rw[lW];trivial,by rw[lX];trivial⟩
def UR(n:Int)(h:(Lit.int .i64 n).wf=true):(AH.mk 2 n [] [] []).ok:=by rw[AH.ok];exact⟨Wd,h,by rw[lW];trivial,by rw[lX];trivial⟩
def US:jK.ok:=λd a=>by
 simp only[jK,mem_cons,not_mem_nil,or_false]at a
 rcases a with rfl|rfl
 ·refine⟨λf hf=> ?_,λp hp=>Xz⟩
  simp only[mem_cons,not_mem_nil,or_false]at hf
  subst hf
  refine⟨λp hp=> ?_,λd a=> ?_⟩
  ·simp only[Qc,mem_cons,not_mem_nil,or_false]at hp
   subst hp
   exact KH
  ·simp only[Qc,mem_cons,not_mem_nil,or_false]at a
   subst a
   intro m b
   simp only[aCu,mem_cons,not_mem_nil,or_false]at b
   rcases b with rfl|rfl
   ·exact GT _
   ·exact GT _
 ·refine⟨λf hf=> ?_,λp hp=>Xz⟩
  simp only[mem_cons,not_mem_nil,or_false]at hf
  subst hf
  exact⟨(λp hp=>Xz),(λd a=>by cases a)⟩
def aEQ:Am jK lQ []:=⟨Xe,US,Xe,(λf hf=>by cases hf),Wd,λx hx=>Y1⟩
def aCz:Ai HH.O 0:=by
 refine⟨Xe,λx hx=> ?_⟩;simp only[HH,mem_cons,not_mem_nil,or_false]at hx;subst hx;refine⟨?_,Xe⟩;rw[Sl.b4];refine⟨Wd,λm a=> ?_,(λd c=>by cases c),λy b=> ?_⟩
 ·simp only[yL,Sl.args,mem_cons,not_mem_nil,or_false]at a;subst a;exact GT _
 ·simp only[yL,Sl.O,mem_cons,not_mem_nil,or_false]at b;subst b;rw[Sl.b4];exact⟨Wd,(λm a=>by cases a),(λd c=>by cases c),(λy b=>by cases b)⟩
def aDA:BT qF:=by
 refine⟨⟨Wd,λt ht=> ?_,λt ht r hr=> ?_⟩,λt ht r hr m a=> ?_⟩
 ·obtain rfl:=mem_singleton.1 ht;exact by decide
 ·obtain rfl:=mem_singleton.1 ht;obtain rfl:=mem_singleton.1 hr;exact by decide
 ·obtain rfl:=mem_singleton.1 ht;obtain rfl:=mem_singleton.1 hr;obtain rfl:=mem_singleton.1 a;exact⟨DS Xe,UR 7 Wd⟩
def xW:AV := .agg [.int .i64 7, .int .i64 0, .str [], .slice [] .no, .slice [.agg [.str SG, .int .i64 7, .int .i64 0, .str [], .slice [] .no, .slice [.agg [.str GS, .int .i64 2, .int .i64 7, .str [], .slice [] .no, .slice [] .no]] .no]] .no,
 .slice [] .no, .slice [.slice [.agg [.str sH, .str sI]] .no] .no,Tbls.C qF]
theorem aDB:EK UP [] [[⟨sH,sI⟩]] qF=xW:=by unfold EK xW UP;simp[AH.b1,AH.bh,AH.kind,AH.n,AH.s,AH.l,AH.m,AF.C,AF.name,AF.v,kE,Ae.C]
def aDC:AN prog 6 [jK.C,lQ.C,HH.C, .slice (([]:List AF).map AF.C) .no,Tbls.C qF] xW:=by have e:bV jK lQ [] (1+1) false (aW jK HH) cJ HH.O [] false ⟨qF,[],[[]],0⟩=(ndW,⟨qF,[],[[⟨sH,sI⟩]],6⟩):=aEO 0;have hr:=VF jK lQ [] HH qF 1 aEQ Wd aAw aCz aDA (by rw[e];decide) [] (by rw[e];exact aCy);rw[e,upW]at hr;rw[<-aDB];exact hr
def SH:CR prog 71 Dp:=⟨underlying71,Wc,Wc,Wd⟩
def SI:Jb prog Dp 0 [.str sH, .str sI] [.str sH, .str sI]=some true:=rfl
def UT:AN prog 5 [] (.bool true):=by
 have c:=aAs;have e:=UO;have h3:=aDC;have a:AA [jK.C,lQ.C,HH.C, .slice [] .nil,Tbls.C qF] [jK.C,lQ.C,HH.C, .slice (([]:List AF).map AF.C) .no,Tbls.C qF]:=
  AA.cons (aG _) (AA.cons (aG _) (AA.cons (aG _) (AA.cons (AC.no (aB _)) (aB _))))
 have x0:(lQ.ops.map Ak.C)[0]? =some HH.C:=rfl;have f:[AV.agg [.str sH, .str sI]][0]? =some (AV.agg [.str sH, .str sI]):=rfl;have g:[AV.slice [AV.agg [.str sH, .str sI]] .no][0]? =some (AV.slice [AV.agg [.str sH, .str sI]] .no):=rfl;have h:[AV.agg [.str SG, .int .i64 7, .int .i64 0, .str [], .slice [] .no, .slice [AV.agg [.str GS, .int .i64 2, .int .i64 7, .str [], .slice [] .no, .slice [] .no]] .no]][0]? =some (AV.agg [.str SG, .int .i64 7, .int .i64 0, .str [], .slice [] .no, .slice [AV.agg [.str GS, .int .i64 2, .int .i64 7, .str [], .slice [] .no, .slice [] .no]] .no]):=rfl;have i:[AV.agg [.str GS, .int .i64 2, .int .i64 7, .str [], .slice [] .no, .slice [] .no]][0]? =some (AV.agg [.str GS, .int .i64 2, .int .i64 7, .str [], .slice [] .no, .slice [] .no]):=rfl;have b:=SI;refine AI.plain rfl rfl (aS [0] func5 ?_)
 repeat' first|refine bJ (d:=1) rfl rfl rfl rfl rfl ?_|refine b8 1 rfl (bE rfl rfl rfl rfl) ?_|refine bJ (d:=3) rfl rfl rfl rfl rfl ?_|refine b8 3 rfl (bE rfl rfl rfl rfl) ?_|refine aH rfl h3 a ?_|refine Vd SH rfl rfl b ?_|refine .s1 ?_|(refine .q ?_ ?_<;>intro O)|refine bC (agg:=true) rfl rfl rfl rfl rfl rfl rfl rfl rfl rfl rfl ?_|fail
 exact bY
mutual
theorem GU:∀v:AH,o6 v v=true
 | .mk k n s l m=>by rw[o6,GV l,zU m];simp
theorem GV:∀l:List AH,oF l l=true
 |[]=>by rw[oF]
 |v::l=>by rw[oF,GU v,GV l];rfl
theorem zU:∀l:List AF,nH l l=true
 |[]=>by rw[nH]
 | .mk n v::l=>by rw[nH,GU v,zU l];simp
end
def UU(a b:List AF)(h:aC AF.size a<=9223372036854775807):AN prog 72 [.slice (a.map AF.C) .no, .slice (b.map AF.C) .no] (.bool (nH a b)):=
 Ly (aC AF.size a) (λx y hx=>aDH x y om) a b (by have:=aJ AF.au a;omega) (λx hx=>by have:=aN (size:=AF.size) hx;have c:x.size=x.name.length+2+x.v.size:=rfl;omega)
def UV(r:Row)(h:aC AF.size r.aq<=9223372036854775807):AN prog 31 [r.C,r.C] (.bool true):=by
 refine AI.plain rfl (by simp[aA,Row.K]) (aS [4] func31 ?_);have a:=UU r.aq r.aq h;rw[zU]at a;have e1:(r.key==r.key)=true:=Wb
 have b:(r.aw==r.aw)=true:=Wb
 have c:(r.broken==r.broken)=true:=Wb
 repeat' first|refine cW rfl rfl ?_|refine .s1 ?_|(refine .q ?_ ?_<;>intro O)|refine aH rfl a (aB _) ?_|fail
 all_goals exact bY
def Nc(l:List AY)(i:l.length<=9223372036854775807)(hr:∀t∈l,t.ag.length<=9223372036854775807)(hs:∀t∈l,∀r∈t.ag,aC AF.size r.aq<=9223372036854775807):
  AN prog 7 [Tbls.C l,Tbls.C l] (.bool true):=by
 refine AI.plain rfl Ym (aS [4] func7 ?_);have g:((l.length:Int) != (l.length:Int))=false:=Wb
 refine .go ?_;change AB _ _ _ _ _ _ _;refine AB.loop (λn s H=>∃k:Nat,n=l.length-k/\k<=l.length/\H=⟨[],[]⟩/\s=[(5, .int .i64 k),(0,Tbls.C l),(1,Tbls.C l)])
  (s0:=[(5, .int .i64 (0:Nat)),(0,Tbls.C l),(1,Tbls.C l)]) Z9 ⟨0,rfl,zero_le _,rfl,rfl⟩ ?_
 rintro n s H ⟨k,rfl,hk,rfl,rfl⟩;by_cases a:k<l.length
 ·have c:decide ((k:Int)<(l.length:Int))=true:=by simp[a]
  have x1:=aV (f:=AY.C) a;have e1:(l[k].name != l[k].name)=false:=Wb
  have e:=hr _ (getElem_mem a);have h:((l[k].ag.length:Int) != (l[k].ag.length:Int))=false:=Wb
  refine .go ?_;change AB _ _ _ _ _ _ _;refine AB.loop (λn s H=>∃j:Nat,n=l[k].ag.length-j/\j<=l[k].ag.length/\H=⟨[],[]⟩/\s=[(6, .int .i64 j),(5, .int .i64 k),(0,Tbls.C l),(1,Tbls.C l)])
   (s0:=[(6, .int .i64 (0:Nat)),(5, .int .i64 k),(0,Tbls.C l),(1,Tbls.C l)]) Z9 ⟨0,rfl,zero_le _,rfl,rfl⟩ ?_
  rintro n s H ⟨j,rfl,hj,rfl,rfl⟩;by_cases b:j<l[k].ag.length
  ·have d:decide ((j:Int)<(l[k].ag.length:Int))=true:=by simp[b]
   have m:=aV (f:=Row.C) b;have hrow:=UV l[k].ag[j] (hs _ (getElem_mem a) _ (getElem_mem b))
   repeat' first|refine .s1 ?_|(refine .q ?_ ?_<;>intro O)|refine aH rfl hrow (aB _) ?_|fail
   exact⟨l[k].ag.length-(j+1),om,[(6, .int .i64 ((j+1:Nat):Int)),(5, .int .i64 k),(0,Tbls.C l),(1,Tbls.C l)],
    Z9,WL,rfl,j+1,rfl,om,rfl,rfl⟩
  ·have d:decide ((j:Int)<(l[k].ag.length:Int))=false:=by simp;omega
   refine .go ?_;exact⟨l.length-(k+1),om,[(5, .int .i64 ((k+1:Nat):Int)),(0,Tbls.C l),(1,Tbls.C l)],
    Z9,WL,rfl,k+1,rfl,om,rfl,rfl⟩
 ·have c:decide ((k:Int)<(l.length:Int))=false:=by simp;omega
  refine .go ?_;exact bY
def GW(x:AG):(iF x).kind≠0:=by unfold iF AH.kind;exact(by decide:(4:Int)≠0)
def JR{n:AG}{v:AH}(hk:v.kind≠0)(h:(Dk n v).2=0):(Dk n v).1.kind≠0:=by
 have a:∀x:AH×Int,(x=(bP,8)\/x=(bP,7)\/x.1.kind≠0)->x.2=0->x.1.kind≠0:=Xu
 refine a _ ?_ h;unfold Dk;repeat' split
 all_goals first|exact .inl rfl|exact .inr (.inl rfl)|exact .inr (.inr hk)|exact .inr (.inr (GW _))
theorem SJ(m:Bool)(v:AH)(a:List AG)(l:List Nd):upM (.mk 0 m v a l)=if v.kind=0/\m=true then (bP,false) else (v,true):=rfl
theorem SK(m:Bool)(v:AH)(a:List AG)(l:List Nd):upM (.mk 1 m v a l)=match upL l with|some vs=>(.mk 6 0 [] vs [],true)|none=>(bP, !m):=by grind[upM,AH.kind,bP]
theorem II(m:Bool)(v:AH)(a:List AG)(l:List Nd):upM (.mk 2 m v a l)=match upP a l with|some ms=>(.mk 7 0 [] [] ms,true)|none=>(bP, !m):=by grind[upM,AH.kind,bP]
def Qe{s:AJ}{n:AG}{v:AH}(hk:v.kind≠0)(h:(zX s n v).2=0):(zX s n v).1.kind≠0:=by
 unfold zX at h ⊢;split at h
 ·omega
 rename_i c;rw[if_neg c];split at h
 ·grind
 ·rename_i a;rw[if_neg a];exact JR hk h
def Bj(st:AS)(r:Nd×AS):Prop:=st.F.length<=r.2.F.length/\((upM r.1).2=false->0<r.2.F.length)
def Bj.of{st a:AS}{r:Nd×AS}(b:Bj a r)(h:a.F.length=st.F.length:=by rfl):Bj st r:=⟨by rw[<-h];exact b.1,b.2⟩
def CV(pl:Pl):Prop:=∀u row w p m st,Bj st (pl u row w p m st)
def lR(st a:AS)(m:Bool)(p:Ab)(e:Int)(h:st.F.length<=a.F.length):Bj st (mP m,a.bad p e):=by grind[Bj,AS.bad,List.length_append,List.length_cons]
def x8(st a:AS)(m:Bool)(v:AH)(h:st.F.length<=a.F.length)(c:m=true->v.kind≠0):Bj st (lL m v,a):=by refine⟨h,λb=> ?_⟩;exfalso;unfold lL at b;rw[SJ]at b;grind
mutual
theorem GX(s:AJ)(pl:Pl)(hpl:CV pl)(tb:AG)(w:List Sl):∀(v:AH) (t:Ac) (p:Ab) (st:AS),Bj st (dD s pl tb w v t p st)
 | .mk k n str l m,t,p,st=>by
  have h0:st.F.length<=st.ah.F.length:=le_refl _;rw[dD];dsimp only;by_cases b:k=0
  ·rw[if_pos b];split
   ·exact lR _ _ _ _ _ h0
   ·exact x8 _ _ _ _ h0 (λh=>W0)
  rw[if_neg b];split
  ·split
   ·exact lR _ _ _ _ _ h0
   ·have:=Lr s pl hpl tb w l (cB t) p 0 st.ah;refine⟨this.1,λa=>this.2 ?_⟩;rw[SK]at a;cases e:upL (cC s pl tb w l (cB t) p 0 st.ah).1 with
    |none=>rfl
    |some vs=>rw[e]at a;simp at a
  split
  ·split
   ·exact lR _ _ _ _ _ h0
   ·rename_i c;exact x8 _ _ _ _ h0 (λ_=>Qe (v := .mk k n str l m) b (Decidable.not_not.1 c))
  split
  ·exact lR _ _ _ _ _ h0
  unfold xB;split
  ·exact lR _ _ _ _ _ h0
  split
  ·split
   ·exact lR _ _ _ _ _ h0
   ·exact x8 _ _ _ _ h0 (λh=>W0)
  split
  ·exact lR _ _ _ _ _ h0
  ·exact(hpl _ _ _ _ _ _).of
theorem Lr(s:AJ)(pl:Pl)(hpl:CV pl)(tb:AG)(w:List Sl):∀(l:List AH) (t:Ac) (p:Ab) (i:Nat) (st:AS),st.F.length<=(cC s pl tb w l t p i st).2.F.length/\(upL (cC s pl tb w l t p i st).1=none->0<(cC s pl tb w l t p i st).2.F.length)
 |[],_,_,_,st=>by rw[cC];exact⟨le_refl _,λh=>by rw[upL]at h;cases h⟩
 |v::l,t,p,i,st=>by
  rw[cC];have d:=GX s pl hpl tb w v t (p++[⟨[],i⟩]) st;have b:=Lr s pl hpl tb w l t p (i+1) (dD s pl tb w v t (p++[⟨[],i⟩]) st).2;refine⟨le_trans d.1 b.1,λa=> ?_⟩;dsimp only at a;rw[upL]at a;split at a
  ·exact b.2 (by
    cases e:upL (cC s pl tb w l t p (i+1) (dD s pl tb w v t (p++[⟨[],i⟩]) st).2).1 with
    |none=>rfl
    |some x=>rw[e]at a;cases a)
  ·rename_i c;exact Nat.lt_of_lt_of_le (d.2 WA) b.1
end
def Ls(s:AJ)(d:AR)(A:List AF)(pl:Pl)(hpl:CV pl)(a:Bool)(u:AG)(row:Row)(g:AT)(p:Ab)(st:AS):Bj st (b6 s d A pl a u row g p st):=by
 have h0:st.F.length<=st.ah.F.length:=le_refl _;unfold b6;dsimp only;split
 ·exact x8 _ _ _ _ h0 (λ_=>GW _)
 split
 ·exact lR _ _ _ _ _ h0
 split
 ·split
  ·split
   ·exact lR st ⟨_,st.ah.F,_,_⟩ _ _ _ h0
   ·exact(GX s pl hpl _ _ _ _ _ _).of
  ·exact lR _ _ _ _ _ h0
 ·exact(GX s pl hpl _ _ _ _ _ _).of
def JS{α:Type}(a:α->AS->Nd×AS)(b:α->AG)(hf:∀g st,Bj st (a g st)):∀(l:List α) (st:AS),st.F.length<=(bX a l st).2.F.length/\(upP (l.map b) (bX a l st).1=none->0<(bX a l st).2.F.length)
 |[],st=>⟨le_refl _,λh=>by rw[bX,upP]at h;cases h⟩
 |g::l,st=>by
  rw[bX];have d:=hf g st;have e:=JS a b hf l (a g st).2;refine⟨le_trans d.1 e.1,λf=> ?_⟩;rw[upP]at f;split at f
  ·simp_all
  ·rename_i c;exact Nat.lt_of_lt_of_le (d.2 WA) e.1
def Lt{m:Bool}{v:AH}{a:List AG}{l:List Nd}(h:(upM (.mk 2 m v a l)).2=false):upP a l=none:=by grind[II]
def Lv(s:AJ)(d:AR)(A:List AF):∀(n:Nat),CV (bV s d A n false)
 |0=>λu row w p m st=>⟨le_refl _,λh=>by have:=Lt h;rw[upP]at this;cases this⟩
 |n+1=>λu row w p m st=>by have h:=JS (λg st=>b6 s d A (bV s d A n false) false u row g (p++[⟨g.key,0⟩]) st) AT.key (λg st=>Ls s d A _ (Lv s d A n) false u row g _ st) (bF s d A u w) st.ah;exact⟨h.1,λa=>h.2 (Lt a)⟩
def IJ:∀(a:List AG) (l:List Nd) (c:List AF),a.length=l.length->upP a l=some c->c.map AF.name=a
 |[],[],c,_,h=>by rw[upP]at h;cases h;rfl
 |k::a,x::l,c,b,h=>by
  rw[upP]at h;split at h
  ·rw[List.tail_cons]at h;cases e:upP a l with
   |none=>rw[e]at h;cases h
   |some m=>rw[e]at h;cases h;have:=IJ a l m Yj e;rw[List.map_cons,this];rfl
  ·cases h
 |[],_::_,_,b,_=>by simp at b
 |_::_,[],_,b,_=>by simp at b
def GY{α:Type}(a:α->AS->Nd×AS):∀(l:List α) (st:AS),(bX a l st).1.length=l.length
 |[],_=>rfl
 |g::l,st=>by have:=GY a l (a g st).2;rw[bX,List.length_cons,List.length_cons,this]
def Qf(s:AJ)(d:AR)(A:List AF)(n:Nat)(a:Bool)(u:AG)(row:Row)(w:List Sl)(p:Ab)(st:AS):
  let r:=bV s d A (n+1) a u row w p false st;((upM r.1).1.kind=0/\0<r.2.F.length)\/((upM r.1).1.kind=7/\(upM r.1).1.m.map AF.name=(bF s d A u w).map AT.key):=by
 intro r;have hr:r=(.mk 2 false bP ((bF s d A u w).map AT.key) (bX (λg st=>b6 s d A (bV s d A n false) a u row g (p++[⟨g.key,0⟩]) st) (bF s d A u w) st.ah).1,
  (bX (λg st=>b6 s d A (bV s d A n false) a u row g (p++[⟨g.key,0⟩]) st) (bF s d A u w) st.ah).2):=rfl
 have h:=JS (λg st=>b6 s d A (bV s d A n false) a u row g (p++[⟨g.key,0⟩]) st) AT.key (λg st=>Ls s d A _ (Lv s d A n) a u row g _ st) (bF s d A u w) st.ah;have b:=GY (λg st=>b6 s d A (bV s d A n false) a u row g (p++[⟨g.key,0⟩]) st) (bF s d A u w) st.ah;rw[hr];generalize bX (λg st=>b6 s d A (bV s d A n false) a u row g (p++[⟨g.key,0⟩]) st) (bF s d A u w) st.ah=q at *;rw[II];cases e:upP ((bF s d A u w).map AT.key) q.1 with
 |none=>left;exact⟨rfl,h.2 e⟩
 |some c=>right;exact⟨rfl,IJ _ _ _ (by rw[length_map];exact b.symm) e⟩
def BS.size(c:BS):Nat:=c.s.size+c.d.size+aC AF.size c.vars+aC AY.size c.L+4
def BS.okR(c:BS):Prop:=c.s.ok/\c.d.ok/\(∀m∈c.vars,m.ok)/\∀t∈c.L,t.ok
def Nf:∀n:Nat,AQ prog n 32 true BS.C BS.size BS.okR
 |0=>AQ.zero
 |n+1=>(AQ.struct underlying32 Wc
   (AW.cons (c:=3) rfl Wc (kN λ_=>⟨_,rfl⟩) (Pu n)
    (AW.cons (c:=2) rfl Wc (kN λ_=>⟨_,rfl⟩) (Pw n)
     (AW.cons (c:=1) rfl Wc (bM λ_=>rfl) (nQ n)
      (AW.cons (c:=1) rfl Wc (bM λ_=>rfl) (tL n)
       (AW.cons (c:=1) rfl Wc (bM λ_=>rfl) (Np n) AW.nil)))))).map
   (λx=>(⟨x.1,x.2.1,x.2.2.1,x.2.2.2.1,x.2.2.2.2.1⟩:BS)) (λ_=>rfl) (λx=>by simp only[BS.size];omega) (λx h=>⟨h.1,h.2.1,h.2.2.2.1,h.2.2.2.2.1⟩)
def BS.of{c:BS}(h:c.okR)(hz:c.size<=1048576+4):Ba c:=by unfold BS.size at hz;exact⟨om,h.1,om,h.2.1,om,h.2.2.1,om,h.2.2.2⟩
theorem evalKeys(c:BS)(h:Ba c):AN prog 3 [c.C] (.bool true):=by
 obtain⟨⟨o,A,b⟩,hq,hp⟩:=kOp c h;dsimp only at hq hp;have hw:=UT;have n:=BS.K c;refine AI.plain rfl (by rw[aA,n];rfl) (aS [2] func3 ?_);cases b with
 |false=>
  repeat' first|refine .br ?_|refine .s1 ?_|(refine .q ?_ ?_<;>intro O)|fail
  exact bY
 |true=>
 have k:=hq rfl;obtain⟨hr,r1,r2,r3⟩:=aEL c o A k;have e:=Qf c.s c.d A 400 (decide (o.kind=1)) (aW c.s o) cJ o.O [] ⟨c.L,[],if o.kind=1 then [] else [[]],0⟩;change ((upM (wX c o A).1).1.kind=0/\0<(wX c o A).2.F.length)\/((upM (wX c o A).1).1.kind=7/\(upM (wX c o A).1).1.m.map AF.name=(bF c.s c.d A (aW c.s o) o.O).map AT.key) at e;obtain⟨F,w,x⟩:=aAr (wX c o A).2.F r1 r2;replace hr:=hr F x;rw[<-w]at e;have ab:=Rr c.s o;have aa:AN prog 8 [c.s.C,c.d.C, .slice (A.map AF.C) .no, .str (aW c.s o), .slice (o.O.map Sl.C) .no] (.slice ((bF c.s c.d A (aW c.s o) o.O).map AT.C) .no):=by obtain⟨q1,q2⟩:=k.bj.aj;have q3:=k.O.sz;have q4:=k.bj.hd;exact O5 c.s c.d A (aW c.s o) o.O k.bj.hs om q1 k.bj.he
 have ac:=Nc c.L (by have:=k.b8.a8.len;omega) (λt ht=>by have:=k.b8.a8.ag t ht;omega) (λt ht r hr=>by have:=(h.aq t ht r hr).2;omega);have ad:=Jv c.s c.d A k.bj _ (qY c.s c.d A 0) _ (Jw c.s (oN k.served) c.d A k.bj 0) (aW c.s o) cJ ⟨Wd,λm hm=>by cases hm⟩ B9 (zQ k.bj k.cr k.served o) o.O ⟨c.L,0⟩ k.O (k.b8.mono Zm) (zero_le _);generalize bF c.s c.d A (aW c.s o) o.O=i at *
 generalize (upM (wX c o A).1).1=v at *
 generalize (wX c o A).2.R=R at *
 generalize (wX c o A).2.L=L2 at *
 have y:(kE R).length=R.length:=mU R;have ae:(i.map AT.C).length=i.length:=length_map _;unfold EK at hr;unfold BS.C at n hp ⊢;have p:((o.kind==0)=true/\(((kE R).length:Int) != 1)=false/\L2=c.L)\/(o.kind==0)=false:=by
  by_cases o0:o.kind=0
  ·left;obtain⟨a,b⟩:=r3 om;exact⟨by rw[o0];rfl,by rw[y,a];rfl,b⟩
  ·right;simpa using o0
 have z:((v.kind==0)=true/\decide ((F.length:Int)>0)=true)\/((v.kind==0)=false/\((i.length:Int) != (v.mv.length:Int))=false):=by
  rcases e with⟨a,b⟩|⟨a,b⟩
  ·left;exact⟨WQ,decide_eq_true om⟩
  ·right;have:=congrArg List.length b;rw[length_map,length_map]at this;refine⟨WQ, ?_⟩;rw[v.bn,this];simp
 clear r1 r2 r3 hq;rcases z with⟨nk,nF⟩|⟨nk,nL⟩
 ·rcases p with⟨n0,nR,rfl⟩|n0
  ·repeat' first|refine .br ?_|refine .s1 ?_|(refine .q ?_ ?_<;>intro O)|refine aH rfl hr (aB _) ?_|fail
   exact bY
  ·repeat' first|refine .br ?_|refine .s1 ?_|(refine .q ?_ ?_<;>intro O)|refine aH rfl hr (aB _) ?_|fail
   exact bY
 have f:v.m.map AF.name=i.map AT.key:=by
  rcases e with⟨a,b⟩|⟨a,b⟩
  ·rw[a]at nk;cases nk
  ·exact b
 have a1:v.m.length=i.length:=by have:=congrArg List.length f;rwa [length_map,length_map]at this
 have g:∀(k:Nat) (j:k<i.length),(v.mv)[k]? =some (v.m[k]'om).C/\(i[k].key != (v.m[k]'om).name)=false:=λk j=>by refine⟨rX om, ?_⟩;have u:=congrArg (λl:List AG=>l[k]?) f;simp only[List.getElem?_map]at u;rw[List.getElem?_eq_getElem om,List.getElem?_eq_getElem j]at u;have h3:(v.m[k]'om).name=i[k].key:=Option.some.inj u;rw[h3];simp
 have ag:((i.length:Int) != (v.m.length:Int))=false:=by rw[a1];simp
 rcases p with⟨n0,nR,rfl⟩|n0
 ·repeat' first|refine .br ?_|refine .s1 ?_|(refine .q ?_ ?_<;>intro O)|refine aH rfl hr (aB _) ?_|fail
  refine fX i AT.C (λk=>[(8, .int .i64 k),(7, .slice (i.map AT.C) .no),(6, .ptr 1 0)]) (λ_=>_) (λ_=>True) trivial (λk j d1 x1 _=> ?_) (λd0 _=> ?_)
  ·obtain⟨y1,y2⟩:=g k j
   repeat' first|refine .s1 ?_|(refine .q ?_ ?_<;>intro O)|fail
   exact nz trivial (hb:=by show aM 2 0 _=true;simp[aM,AV.ab,aD,cH]) (h3:=by simp[aQ,aL,Ob.ab,aE,AV.ab,aD,cH,bZ,b9,aZ,AH.bp,AH.bs,Tbls.C,dY,fW,bH A0.K])
  ·repeat' first|refine .s1 ?_|(refine .q ?_ ?_<;>intro O)|fail
   exact bY
 ·repeat' first|refine .br ?_|refine .s1 ?_|(refine .q ?_ ?_<;>intro O)|refine aH rfl hr (aB _) ?_|fail
  refine fX i AT.C (λk=>[(8, .int .i64 k),(7, .slice (i.map AT.C) .no),(6, .ptr 1 0)]) (λ_=>_) (λ_=>True) trivial (λk j d1 x1 _=> ?_) (λd0 _=> ?_)
  ·obtain⟨y1,y2⟩:=g k j
   repeat' first|refine .s1 ?_|(refine .q ?_ ?_<;>intro O)|fail
   exact nz trivial (hb:=by show aM 2 0 _=true;simp[aM,AV.ab,aD,cH]) (h3:=by simp[aQ,aL,Ob.ab,aE,AV.ab,aD,cH,bZ,b9,aZ,AH.bp,AH.bs,Tbls.C,dY,fW,bH A0.K])
  ·repeat' first|refine .s1 ?_|(refine .q ?_ ?_<;>intro O)|fail
   exact bY
end Go.Proofs.YtimbiifcnhgcoaaGreatDoor
