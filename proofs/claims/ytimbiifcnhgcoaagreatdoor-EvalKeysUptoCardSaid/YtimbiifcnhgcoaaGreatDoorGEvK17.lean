/- Joined texts. -/
import Derived.Lib.TrimUEq
import Derived.Lib.ValidLaws
import Derived.Lib.ParseIntB
import Derived.Lib.ParseIntBCases
import Derived.Test.YtimbiifcnhgcoaaGreatDoorGEvK15
set_option maxRecDepth 100000
set_option maxHeartbeats 16000000
set_option linter.all false
open List (drop_eq_nil_of_le getElem_mem length_drop)
open Nat (reduceSub)
open Int (decLe decLt)
open Go Go.Av Go.Proofs.YtimbiifcnhgcoaaGreatDoor Go.Proofs.Tryz
variable{l:AG}{a:Int}{i:Nat}
namespace Go.Proofs.YtimbiifcnhgcoaaGreatDoor
open Go Go.Av Go.Proofs.Tryz
attribute [local irreducible] AB AD AN AI Av.AU AZ
def RG(c:UInt8):AN prog 208 [.int .u8 (c.toNat:Int)] (.bool (HE c)):=by
 refine AI.plain rfl rfl (aS [2] func208 ?_)
 repeat' first|refine .s1 ?_|(refine .q ?_ ?_<;>intro O)|fail
 all_goals
  refine Fin.rb ?_;unfold HE;rw[Bool.eq_iff_iff];simp at *; omega
def RH(c:UInt8):AN prog 209 [.int .u8 (c.toNat:Int)] (.bool (pD c)):=by
 refine AI.plain rfl rfl (aS [2] func209 ?_)
 repeat' first|refine .s1 ?_|(refine .q ?_ ?_<;>intro O)|fail
 all_goals
  refine Fin.rb ?_;unfold pD;rw[Bool.eq_iff_iff];simp at *; omega
def Cu(s:AG)(hs:s.length<=9223372036854775806):AN prog 134 [.str s] (.bool (lO s)):=by
 refine AI.plain rfl rfl (aS [2] func134 ?_);by_cases h0:s=[]
 ·subst h0;refine .go ?_;exact bY
 ·have g:(s==[])=false:=by simpa using h0
  have e:0<s.length:=List.length_pos_iff.2 h0;have x0:s[0]? =some s[0]:=f9 e;have f:=RG s[0];have hn:lO s=(HE s[0]&&nmC false (s.drop 1)):=by
   cases s with
   |nil=>exact absurd rfl h0
   |cons c r=>simp[lO,nmC]
  repeat' first|refine .s1 ?_|(refine .q ?_ ?_<;>intro O)|refine .is ?_|fail
  ·refine Fin.rb ?_;rw[hn];simp_all
  ·refine bK (s.length-1) (λk=>[(3, .int .i64 ((k+1:Nat):Int)),(0, .str s)]) (λ_=>⟨[],[]⟩) (λk=>lO s=nmC false (s.drop (k+1))) Z9 rfl (by rw[hn];simp_all) λk hk hp=> ?_
   by_cases a:k+1<s.length
   ·have d:decide (((k+1:Nat):Int)<(s.length:Int))=true:=decide_eq_true om;have x1:=f9 a;have h:=RG s[k+1];have h3:=RH s[k+1];have b:=v8 (z:=false) a
    repeat' first|refine .s1 ?_|(refine .q ?_ ?_<;>intro O)|refine .is ?_|fail
    all_goals first|(refine Fin.rb ?_;rw[hp,b];simp_all;done)|(exact⟨om,Z9,Wj,rfl,rfl,by rw[hp,b];simp_all⟩)
   ·have d:decide (((k+1:Nat):Int)<(s.length:Int))=false:=decide_eq_false om;refine .go ?_;refine Fin.rb ?_;rw[hp,drop_eq_nil_of_le om,nmC]
def Cv(l:List AG)(x:AG)(d:l.length<=9223372036854775807):AN prog 169 [.slice (l.map AV.str) .no, .str x] (.bool (decide (x∈l))):=by
 refine AI.plain rfl WY (aS [4] func169 ?_);refine .go ?_;refine bK l.length (λk=>[(5, .int .i64 k),(0, .slice (l.map AV.str) .no),(1, .str x)]) (λ_=>⟨[],[]⟩) (λk=>decide (x∈l)=decide (x∈l.drop k)) Z9 rfl rfl λk hk hp=> ?_
 by_cases a:k<l.length
 ·have c:decide ((k:Int)<(l.length:Int))=true:=by simp[a]
  have x1:=aV (f:=AV.str) a;have b:(x∈l.drop k)↔(x=l[k]\/x∈l.drop (k+1)):=by rw[List.drop_eq_getElem_cons a,List.mem_cons]
  repeat' first|refine .s1 ?_|(refine .q ?_ ?_<;>intro O)|fail
  ·refine Fin.rb ?_;rw[hp,Eq.comm,decide_eq_true_eq,b];exact .inl (by simpa using Eq.symm Zq)
  ·exact⟨a,Z9,Wj,rfl,rfl,by
    rw[hp,decide_eq_decide,b];have:¬x=l[k]:=λe=>by rw[<-e]at O;simp at O
    simp[this]⟩
 ·have c:decide ((k:Int)<(l.length:Int))=false:=by simp;omega
  refine .go ?_;refine Fin.rb ?_;rw[hp,drop_eq_nil_of_le om];simp
def T4{l:Int}(h0:0<=l)(h4:l<=4):IntKind.i64.wrap (2 * 2 ^ min (IntKind.u64.wrap l).toNat IntKind.i64.bits)=2 ^ (l.toNat+1):=by
 have e:l=0\/l=1\/l=2\/l=3\/l=4:=om
 rcases e with rfl|rfl|rfl|rfl|rfl<;>rfl
def RI{l:Int}(h0:0<=l)(h4:l<=4):0<=IntKind.u64.wrap l:=by
 have e:l=0\/l=1\/l=2\/l=3\/l=4:=om
 rcases e with rfl|rfl|rfl|rfl|rfl<;>decide
def kT(t:Ac)(hs:t.name.length<=9223372036854775806):AN prog 137 [t.C] (.bool (cG t)):=by
 have hn:=Cu t.name hs;refine AI.plain rfl rfl (aS [2] func137 ?_);by_cases a:0<=t.an
 ·have e1:decide (0<=t.an)=true:=decide_eq_true a;by_cases b:t.an<=4
  ·have c:decide (t.an<=4)=true:=decide_eq_true b;by_cases h3:0<=t.az
   ·have d:decide (0<=t.az)=true:=decide_eq_true h3
    repeat' first|refine .br ?_|refine .s1 ?_|(refine .q ?_ ?_<;>intro O)|refine gC rfl rfl rfl rfl rfl ?_|refine Vg rfl rfl (RI a b) (T4 a b) ?_|fail
    all_goals
     refine Fin.rb ?_;unfold cG;rw[e1,c,d];simp_all
   ·have d:decide (0<=t.az)=false:=decide_eq_false h3
    repeat' first|refine .br ?_|refine .s1 ?_|(refine .q ?_ ?_<;>intro O)|fail
    all_goals
     refine Fin.rb ?_;unfold cG;rw[d];simp_all
  ·have c:decide (t.an<=4)=false:=decide_eq_false b
   repeat' first|refine .br ?_|refine .s1 ?_|(refine .q ?_ ?_<;>intro O)|fail
   all_goals
    refine Fin.rb ?_;unfold cG;rw[c];simp_all
 ·have e1:decide (0<=t.an)=false:=decide_eq_false a
  repeat' first|refine .br ?_|refine .s1 ?_|(refine .q ?_ ?_<;>intro O)|fail
  all_goals
   refine Fin.rb ?_;unfold cG;rw[e1];simp_all
def rIs(t:Ac)(hs:t.name.length<=9223372036854775806):AN prog 89 [t.C] (.bool (isT t)):=by
 have hr:=kT t hs;refine AI.plain rfl rfl (aS [2] func89 ?_);cases c:cG t with
 |true=>
  rw[c]at hr;have h0:=(fR.1 c).2.2.2.1;have a:=GZ c
  repeat' first|refine .br ?_|refine .s1 ?_|(refine .q ?_ ?_<;>intro O)|refine DU (m:=t.az.toNat) (n:=1) rfl rfl om rfl om Wd (aDD _) ?_|fail
  refine Fin.rb ?_;unfold isT;rw[c,Bool.true_and,Bool.eq_iff_iff,beq_iff_eq,decide_eq_true_eq];omega
 |false=>rw[c]at hr;refine .ae ?_;refine Fin.rb ?_;unfold isT;rw[c];rfl
def KX(t:Ac)(hs:t.name.length<=9223372036854775806):AN prog 168 [t.C] (.tup [(fU t).1.C, .bool (fU t).2]):=by
 have hr:=kT t hs;refine AI.plain rfl rfl (cE [.cell 2 84, .tmp 3] func168 ?_);unfold fU;cases c:cG t with
 |true=>
  rw[c]at hr;obtain⟨_,b,d,e,f⟩:=fR.1 c;by_cases h0:t.an=0
  ·have a:(t.an==0)=true:=by simp[h0]
   rw[if_neg (λh=>h.2 h0)];refine .ae ?_;exact aO
  ·have a:(t.an==0)=false:=by simp[h0]
   rw[if_pos ⟨rfl,h0⟩]
   repeat' first|refine .br ?_|refine .s1 ?_|(refine .q ?_ ?_<;>intro O)|refine Kg rfl rfl Wd OO ?_|fail
   exact aO
 |false=>rw[c]at hr;rw[if_neg (λh=>by cases h.1)];refine .ae ?_;exact aO
end Go.Proofs.YtimbiifcnhgcoaaGreatDoor
namespace Go.Av
open Go
section
variable [AL]
variable {P:Program} {A:Array Oper} {G:Bool} {K:AX->AE->St->Prop} {C:List Oper} {I:List Aj} {s:AE} {H:St} {d:Tmp} {R:TypeId} {D:String} {S:Array Edge}
def aAG{x y:Operand}{T U:TypeId}{m:Nat}{f:IntKind}(hx:ev? s x=some (.int .i64 a))(b:ev? s y=some (.int f 6))(ha:a=(m:Int))(g:m<144115188075855872)
  (c:AD P A G K C (.pure::I) ((d, .int .i64 ((m * 64:Nat):Int))::s) H):AD P A G K (⟨some d, .binOp .shl T x y U,R,D,S,none⟩::C) I s H:=
 Vg hx b Wd (by
  subst ha
  have e:((m:Int) * 2 ^ min (6:Int).toNat IntKind.i64.bits)=((m * 64:Nat):Int):=by
   rw[show min (6:Int).toNat IntKind.i64.bits=6 from rfl,Int.natCast_mul];rfl
  rw[e,Da om]) c
end
end Go.Av
namespace Go.Proofs.YtimbiifcnhgcoaaGreatDoor
open Go Go.Av Go.Proofs.Tryz
attribute [local irreducible] AB AD AN AI Av.AU AZ
def Gw(c low w:Nat):Nat×Nat:=if c<low\/1114111<c\/(55296<=c/\c<57344) then (0,0) else (c,w)
def Cw(n b0 b1 b2 b3:Nat):Nat×Nat:=
 if b0<128 then (b0,1)
 else if 194<=b0/\b0<224 then (if 2<=n/\(128<=b1/\b1<=191) then Gw (b0 % 32 * 64+b1 % 64) 128 2 else (0,0))
 else if 224<=b0/\b0<240 then (if 3<=n/\(128<=b1/\b1<=191)/\(128<=b2/\b2<=191) then Gw ((b0 % 16 * 64+b1 % 64) * 64+b2 % 64) 2048 3 else (0,0))
 else if 240<=b0/\b0<245 then (if 4<=n/\(128<=b1/\b1<=191)/\(128<=b2/\b2<=191)/\(128<=b3/\b3<=191) then Gw (((b0 % 8 * 64+b1 % 64) * 64+b2 % 64) * 64+b3 % 64) 65536 4 else (0,0))
 else (0,0)
theorem RJ(n a b c b3:Nat)(h0:a<256)(d:b<256)(e:c<256)(h3:b3<256):
  Cw n a b c b3=if Lib.decodeN n a b c b3=(65533,1) then (0,0) else Lib.decodeN n a b c b3:=by
 unfold Cw Lib.decodeN Gw
 repeat' split
 all_goals first|rfl|(exfalso;simp only[Prod.mk.injEq]at *; omega)|(simp only[Prod.mk.injEq]at *; omega)|(exfalso;rename_i hx;exact hx rfl)|(exfalso;simp only[Prod.mk.injEq,and_self,and_true,true_and,not_true_eq_false]at *; done)|(exfalso;simp only[Prod.mk.injEq,and_self,and_true,true_and,not_true_eq_false]at *; omega)|(simp only[Prod.mk.injEq,and_self,and_true,true_and]at *; omega)
def kU(l:AG):Nat×Nat:=if Lib.decodeL l=(65533,1) then (0,0) else Lib.decodeL l
theorem RK(s:AG)(i:Nat):kU (s.drop i)=Cw (s.length-i) (s.getD i 0).toNat (s.getD (i+1) 0).toNat (s.getD (i+2) 0).toNat (s.getD (i+3) 0).toNat:=by unfold kU;rw[RJ _ _ _ _ _ (UInt8.toNat_lt _) (UInt8.toNat_lt _) (UInt8.toNat_lt _) (UInt8.toNat_lt _),Lib.decodeL_N,length_drop,Lib.getD_dropU,Lib.getD_dropU,Lib.getD_dropU,Lib.getD_dropU,Nat.add_zero]
def pH(c:UInt8):IntKind.i64.wrap (c.toNat:Int)=(c.toNat:Int):=Da (by have:=UInt8.toNat_lt c;omega)
def rA(f:Nat->Nat)(c0:Nat):Nat->Nat
 |0=>c0
 |j+1=>rA f c0 j * 64+f (j+1) % 64
def T5(f:Nat->Nat){a:Nat}(h0:a<32):∀ {j:Nat},j<=3->rA f a j<8388608
 |0,_=>by rw[rA];omega
 |1,_=>by rw[rA,rA];omega
 |2,_=>by rw[rA,rA,rA];omega
 |3,_=>by rw[rA,rA,rA,rA];omega
def fE(s:AG)(i k:Nat):Nat:=(s.getD (i+k) 0).toNat
def Il{s:AG}{k:Nat}(h:i+k<s.length):fE s i k=s[i+k].toNat:=by unfold fE;simp[List.getD,h]
def uY(b:Nat):Bool:=decide (128<=b)&&decide (b<=191)
def pI(s:AG)(i:Nat):Nat->Nat->Bool
 |_,0=>true
 |k,n+1=>uY (fE s i k)&&pI s i (k+1) n
def EN(s:AG)(i N LO c0:Nat):Nat×Nat:=if N<=s.length-i then (if pI s i 1 (N-1)=true then Gw (rA (fE s i) c0 (N-1)) LO N else (0,0)) else (0,0)
abbrev Of(p:Nat×Nat):AV := .tup [.int .i64 (p.1:Int), .int .i64 (p.2:Int)]
attribute [local irreducible] decLt decLe Int.le Int.lt in
def T6(N LO c:Nat):AB prog Tryz.f315.ntmps [] (wQ 8 (uC Tryz.f315)) (fin [4,5] (λe _=>∃v,e = .ret v/\AC v (Of (Gw c LO N))))
  [(6, .int .i64 (c:Int)),(7, .int .i64 (N:Int)),(8, .int .i64 (LO:Int))] ⟨[],[]⟩:=by
 by_cases g:c<LO
 ·have a:decide ((c:Int)<(LO:Int))=true:=decide_eq_true om;refine .go ?_;refine cL rfl rfl (AC.eq ?_);rw[Gw,if_pos (.inl g)];rfl
 ·have a:decide ((c:Int)<(LO:Int))=false:=decide_eq_false om;by_cases h:1114111<c
  ·have b:decide ((c:Int)>1114111)=true:=decide_eq_true om;refine .go ?_;refine cL rfl rfl (AC.eq ?_);rw[Gw,if_pos (.inr (.inl h))];rfl
  ·have b:decide ((c:Int)>1114111)=false:=decide_eq_false om;by_cases i:55296<=c
   ·have d:decide ((c:Int)≥55296)=true:=decide_eq_true om;by_cases j:c<57344
    ·have f:decide ((c:Int)<57344)=true:=decide_eq_true om;refine .go ?_;refine cL rfl rfl (AC.eq ?_);rw[Gw,if_pos (.inr (.inr ⟨i,j⟩))];rfl
    ·have f:decide ((c:Int)<57344)=false:=decide_eq_false om;refine .go ?_;refine cL rfl rfl (AC.eq ?_);rw[Gw,if_neg om]
   ·have d:decide ((c:Int)≥55296)=false:=decide_eq_false om;refine .go ?_;refine cL rfl rfl (AC.eq ?_);rw[Gw,if_neg om]
theorem tY{s:AG}{i:Nat}:∀ {n k j:Nat},k<=j->j<k+n->uY (fE s i j)=false->pI s i k n=false
 |0,k,j,a,b,_=>by omega
 |n+1,k,j,a,b,h=>by
  rw[pI]
  by_cases e:k=j
  ·subst e;rw[h];rfl
  ·rw[tY om om h,Bool.and_false]
theorem EP{s:AG}{i:Nat}:∀ {n k:Nat},(∀j,k<=j->j<k+n->uY (fE s i j)=true)->pI s i k n=true
 |0,_,_=>rfl
 |n+1,k,h=>by
  rw[pI,h k (Nat.le_refl _) om,EP λj a b=>h j om om];rfl
attribute [local irreducible] decLt decLe Int.le Int.lt in
def Gx(s:AG)(i N LO a:Nat)(X:i<s.length)(hs:s.length<=4611686018427387904)(y:2<=N/\N<=4)(f:a<32):
  AB prog Tryz.f315.ntmps [] (wQ 6 (uC Tryz.f315)) (fin [4,5] (λe _=>∃v,e = .ret v/\AC v (Of (EN s i N LO a))))
   [(6, .int .i64 (a:Int)),(7, .int .i64 (N:Int)),(8, .int .i64 (LO:Int)),(0, .str s),(1, .int .i64 (i:Int))] ⟨[],[]⟩:=by
 unfold EN;by_cases hn:N<=s.length-i
 ·have m:decide ((N:Int)>(s.length:Int)-(i:Int))=false:=decide_eq_false om;rw[if_pos hn];refine .go ?_;change AB _ _ _ _ _ _ _;refine AB.loop (λn c H=>∃j:Nat,n=N-1-j/\j<=N-1/\(∀k,1<=k->k<=j->uY (fE s i k)=true)/\H=⟨[],[]⟩/\
   c=[(9, .int .i64 ((j+1:Nat):Int)),(7, .int .i64 (N:Int)),(6, .int .i64 ((rA (fE s i) a j:Nat):Int)),(0, .str s),(1, .int .i64 (i:Int)),(8, .int .i64 (LO:Int))])
   (s0:=[(9, .int .i64 ((0+1:Nat):Int)),(7, .int .i64 (N:Int)),(6, .int .i64 ((rA (fE s i) a 0:Nat):Int)),(0, .str s),(1, .int .i64 (i:Int)),(8, .int .i64 (LO:Int))])
   Z9 ⟨0,rfl,Nat.zero_le _,λk t x=>om,rfl,rfl⟩ ?_
  rintro n c H ⟨j,rfl,hj,hcont,rfl,rfl⟩;have l:=T5 (fE s i) f (j:=j) om;by_cases t:j+1<N
  ·have o:decide (((j+1:Nat):Int)<(N:Int))=true:=decide_eq_true om;have hk:i+(j+1)<s.length:=om
   have xk:=f9 hk;have u:=UInt8.toNat_lt s[i+(j+1)];have d:=Il (s:=s) (i:=i) (k:=j+1) hk;by_cases z:s[i+(j+1)].toNat<128
   ·have p:decide ((s[i+(j+1)].toNat:Int)<128)=true:=decide_eq_true om;have g:uY (fE s i (j+1))=false:=by rw[d];unfold uY;rw[decide_eq_false om];rfl
    rw[tY (j:=j+1) om om g,if_neg Wd]
    repeat' first|refine .s1 ?_|(refine .q ?_ ?_<;>intro O)|refine bL (j:=i+(j+1)) rfl rfl rfl rfl rfl Wh ?_|refine gC rfl rfl rfl rfl (pH _) ?_|fail
    exact cL rfl rfl (aG _)
   ·have p:decide ((s[i+(j+1)].toNat:Int)<128)=false:=decide_eq_false om;by_cases k2:191<s[i+(j+1)].toNat
    ·have r:decide ((s[i+(j+1)].toNat:Int)>191)=true:=decide_eq_true om;have g:uY (fE s i (j+1))=false:=by rw[d];unfold uY;rw[decide_eq_true om,decide_eq_false om];rfl
     rw[tY (j:=j+1) om om g,if_neg Wd]
     repeat' first|refine .s1 ?_|(refine .q ?_ ?_<;>intro O)|refine bL (j:=i+(j+1)) rfl rfl rfl rfl rfl Wh ?_|refine gC rfl rfl rfl rfl (pH _) ?_|fail
     exact cL rfl rfl (aG _)
    ·have r:decide ((s[i+(j+1)].toNat:Int)>191)=false:=decide_eq_false om
     repeat' first|refine .s1 ?_|(refine .q ?_ ?_<;>intro O)|refine bL (j:=i+(j+1)) rfl rfl rfl rfl rfl Wh ?_|refine gC rfl rfl rfl rfl (pH _) ?_|refine aAG rfl rfl rfl om ?_|refine DU (n:=63) rfl rfl rfl rfl om Wd (aCb _) ?_|refine aC8 rfl rfl rfl rfl om om (aEG _ _ om) ?_|fail
     refine⟨N-1-(j+1),om,[(9, .int .i64 ((j+1+1:Nat):Int)),(7, .int .i64 (N:Int)),(6, .int .i64 ((rA (fE s i) a (j+1):Nat):Int)),(0, .str s),(1, .int .i64 (i:Int)),(8, .int .i64 (LO:Int))],
      ⟨rfl,rfl,by rw[rA,d];rfl,rfl,rfl,rfl,trivial⟩,Wj,rfl,j+1,rfl,om,λk h w=> ?_,rfl,rfl⟩
     by_cases e:k=j+1
     ·subst e;rw[d];unfold uY;rw[decide_eq_true om,decide_eq_true om];rfl
     ·exact hcont k h om
  ·have o:decide (((j+1:Nat):Int)<(N:Int))=false:=decide_eq_false om;obtain rfl:j=N-1:=om
   rw[EP λk h w=>hcont k h om,if_pos rfl];have b:=T6 N LO (rA (fE s i) a (N-1))
   repeat' first|(refine AB.weaken b ?_;exact Z9)|refine .s1 ?_|(refine .q ?_ ?_<;>intro O)|fail
 ·have m:decide ((N:Int)>(s.length:Int)-(i:Int))=true:=decide_eq_true om;rw[if_neg hn];refine .go ?_;exact cL rfl rfl (aG _)
theorem Cx{s:AG}(X:i<s.length):kU (s.drop i)=Cw (s.length-i) s[i].toNat (fE s i 1) (fE s i 2) (fE s i 3):=by have g0:fE s i 0=s[i].toNat:=Il (k:=0) X;rw[RK, <-g0];rfl
theorem aAH{s:AG}(X:i<s.length)(h:194<=s[i].toNat/\s[i].toNat<224):kU (s.drop i)=EN s i 2 128 (s[i].toNat % 32):=by
 rw[Cx X,Cw,if_neg om,if_pos h];unfold EN;simp only[pI,uY,rA,reduceSub,Bool.and_true,Bool.and_eq_true,decide_eq_true_eq];by_cases a:2<=s.length-i
 ·rw[if_pos a];by_cases b:128<=fE s i 1/\fE s i 1<=191
  ·rw[if_pos ⟨a,b⟩,if_pos b]
  ·rw[if_neg (λh=>b h.2),if_neg b]
 ·rw[if_neg (λh=>a h.1),if_neg a]
theorem aAI{s:AG}(X:i<s.length)(h:224<=s[i].toNat/\s[i].toNat<240):kU (s.drop i)=EN s i 3 2048 (s[i].toNat % 16):=by
 rw[Cx X,Cw,if_neg om,if_neg om,if_pos h];unfold EN;simp only[pI,uY,rA,reduceSub,Bool.and_true,Bool.and_eq_true,decide_eq_true_eq];by_cases a:3<=s.length-i
 ·rw[if_pos a];by_cases b:(128<=fE s i 1/\fE s i 1<=191)/\(128<=fE s i 2/\fE s i 2<=191)
  ·rw[if_pos ⟨a,b⟩,if_pos b]
  ·rw[if_neg (λh=>b h.2),if_neg b]
 ·rw[if_neg (λh=>a h.1),if_neg a]
theorem aAJ{s:AG}(X:i<s.length)(h:240<=s[i].toNat/\s[i].toNat<245):kU (s.drop i)=EN s i 4 65536 (s[i].toNat % 8):=by
 rw[Cx X,Cw,if_neg om,if_neg om,if_neg om,if_pos h];unfold EN;simp only[pI,uY,rA,reduceSub,Bool.and_true,Bool.and_eq_true,decide_eq_true_eq];by_cases a:4<=s.length-i
 ·rw[if_pos a];by_cases b:(128<=fE s i 1/\fE s i 1<=191)/\(128<=fE s i 2/\fE s i 2<=191)/\(128<=fE s i 3/\fE s i 3<=191)
  ·rw[if_pos ⟨a,b⟩,if_pos b]
  ·rw[if_neg (λh=>b h.2),if_neg b]
 ·rw[if_neg (λh=>a h.1),if_neg a]
theorem aAK{s:AG}(X:i<s.length)(h:s[i].toNat<128):kU (s.drop i)=(s[i].toNat,1):=by rw[Cx X,Cw,if_pos h]
theorem aAL{s:AG}(X:i<s.length)(h0:¬s[i].toNat<128)(a:¬(194<=s[i].toNat/\s[i].toNat<224))(h3:¬(224<=s[i].toNat/\s[i].toNat<240))(h4:¬(240<=s[i].toNat/\s[i].toNat<245)):kU (s.drop i)=(0,0):=by rw[Cx X,Cw,if_neg h0,if_neg a,if_neg h3,if_neg h4]
attribute [local irreducible] decLt decLe Int.le Int.lt in
def aC1(s:AG)(i:Nat)(X:i<s.length)(hs:s.length<=4611686018427387904):
  AN prog 315 [.str s, .int .i64 (i:Int)] (Of (kU (s.drop i))):=by
 have x0:=f9 X;have p:=UInt8.toNat_lt s[i];have b:s[i].toNat<9223372036854775808:=om
 have e1:decide ((i:Int)<0)=false:=decide_eq_false om;have t:decide ((i:Int)≥(s.length:Int))=false:=decide_eq_false om;by_cases f:s[i].toNat<128
 ·have m:decide ((s[i].toNat:Int)<128)=true:=decide_eq_true om;rw[aAK X f];refine AI.plain rfl rfl (aS [4,5] func315 ?_)
  repeat' first|refine .s1 ?_|(refine .q ?_ ?_<;>intro O)|refine bL rfl rfl rfl rfl rfl Wh ?_|refine gC rfl rfl rfl rfl (pH _) ?_|fail
  exact cL rfl rfl (aG _)
 ·have m:decide ((s[i].toNat:Int)<128)=false:=decide_eq_false om;by_cases g:194<=s[i].toNat/\s[i].toNat<224
  ·have c:decide ((s[i].toNat:Int)≥194)=true:=decide_eq_true om;have d:decide ((s[i].toNat:Int)<224)=true:=decide_eq_true om;have a:=Gx s i 2 128 (s[i].toNat % 32) X hs ⟨Wd,Wd⟩ om;rw[aAH X g];refine AI.plain rfl rfl (aS [4,5] func315 ?_)
   repeat' first|(refine AB.weaken a ?_;exact Z9)|refine .s1 ?_|(refine .q ?_ ?_<;>intro O)|refine bL rfl rfl rfl rfl rfl Wh ?_|refine gC rfl rfl rfl rfl (pH _) ?_|refine DU (n:=31) rfl rfl rfl rfl b Wd (aC9 _) ?_|fail
  ·by_cases h:224<=s[i].toNat/\s[i].toNat<240
   ·have c:decide ((s[i].toNat:Int)≥194)=true:=decide_eq_true om;have d:decide ((s[i].toNat:Int)<224)=false:=decide_eq_false om;have e:decide ((s[i].toNat:Int)≥224)=true:=decide_eq_true om;have k:decide ((s[i].toNat:Int)<240)=true:=decide_eq_true om;have a:=Gx s i 3 2048 (s[i].toNat % 16) X hs ⟨Wd,Wd⟩ om;rw[aAI X h];refine AI.plain rfl rfl (aS [4,5] func315 ?_)
    repeat' first|(refine AB.weaken a ?_;exact Z9)|refine .s1 ?_|(refine .q ?_ ?_<;>intro O)|refine bL rfl rfl rfl rfl rfl Wh ?_|refine gC rfl rfl rfl rfl (pH _) ?_|refine DU (n:=15) rfl rfl rfl rfl b Wd (aCa _) ?_|fail
   ·by_cases j:240<=s[i].toNat/\s[i].toNat<245
    ·have c:decide ((s[i].toNat:Int)≥194)=true:=decide_eq_true om;have d:decide ((s[i].toNat:Int)<224)=false:=decide_eq_false om;have e:decide ((s[i].toNat:Int)≥224)=true:=decide_eq_true om;have k:decide ((s[i].toNat:Int)<240)=false:=decide_eq_false om;have l:decide ((s[i].toNat:Int)≥240)=true:=decide_eq_true om;have o:decide ((s[i].toNat:Int)<245)=true:=decide_eq_true om;have a:=Gx s i 4 65536 (s[i].toNat % 8) X hs ⟨Wd,Wd⟩ om;rw[aAJ X j];refine AI.plain rfl rfl (aS [4,5] func315 ?_)
     repeat' first|(refine AB.weaken a ?_;exact Z9)|refine .s1 ?_|(refine .q ?_ ?_<;>intro O)|refine bL rfl rfl rfl rfl rfl Wh ?_|refine gC rfl rfl rfl rfl (pH _) ?_|refine DU (n:=7) rfl rfl rfl rfl b Wd (Go.Av.aEF _) ?_|fail
    ·rw[aAL X f g h j];refine AI.plain rfl rfl (aS [4,5] func315 ?_);by_cases r:s[i].toNat<194
     ·have c:decide ((s[i].toNat:Int)≥194)=false:=decide_eq_false om;have e:decide ((s[i].toNat:Int)≥224)=false:=decide_eq_false om;have l:decide ((s[i].toNat:Int)≥240)=false:=decide_eq_false om
      repeat' first|refine .s1 ?_|(refine .q ?_ ?_<;>intro O)|refine bL rfl rfl rfl rfl rfl Wh ?_|refine gC rfl rfl rfl rfl (pH _) ?_|fail
      exact cL rfl rfl (aG _)
     ·have c:decide ((s[i].toNat:Int)≥194)=true:=decide_eq_true om;have d:decide ((s[i].toNat:Int)<224)=false:=decide_eq_false om;have e:decide ((s[i].toNat:Int)≥224)=true:=decide_eq_true om;have k:decide ((s[i].toNat:Int)<240)=false:=decide_eq_false om;have l:decide ((s[i].toNat:Int)≥240)=true:=decide_eq_true om;have o:decide ((s[i].toNat:Int)<245)=false:=decide_eq_false om
      repeat' first|refine .s1 ?_|(refine .q ?_ ?_<;>intro O)|refine bL rfl rfl rfl rfl rfl Wh ?_|refine gC rfl rfl rfl rfl (pH _) ?_|fail
      exact cL rfl rfl (aG _)
def PM(s:AG)(i:Nat)(hs:s.length<=4611686018427387904)(X:i<=4611686018427387904):AN prog 314 [.str s, .int .i64 (i:Int)] (.int .i64 (eE (s.drop i))):=by
 refine AI.plain rfl rfl (aS [4] func314 ?_);have c:=iV (s.drop i);refine .go ?_;refine bK (s.length-i) (λk=>[(5, .int .i64 k),(0, .str s),(1, .int .i64 (i:Int))]) (λ_=>⟨[],[]⟩) (λk=>eE (s.drop i)=k+eE (s.drop (i+k))) Z9 rfl Wb λk hk hp=> ?_
 by_cases a:i+k<s.length
 ·have b:decide ((i:Int)+(k:Int)<(s.length:Int))=true:=decide_eq_true om;have x1:=f9 a;have d:=RH s[i+k];have he:=DI a;repeat' first|refine .s1 ?_|(refine .q ?_ ?_<;>intro O)|refine bL (j:=i+k) rfl rfl rfl rfl rfl Wh ?_|fail
  ·exact⟨om,Z9,Wj,rfl,rfl,by rw[hp,he,if_pos O];simp only[Nat.add_assoc];omega⟩
  ·refine aP rfl (AC.eq (congrArg (AV.int .i64) ?_));rw[hp,he,if_neg WG];simp
 ·have b:decide ((i:Int)+(k:Int)<(s.length:Int))=false:=decide_eq_false om;refine .go ?_;refine aP rfl (AC.eq (congrArg (AV.int .i64) ?_));rw[hp,drop_eq_nil_of_le om,eE];simp
def KY(s:AG)(i:Nat)(kd:Int):Nat×Int:=if q9 (s.drop i)=0 then (i,kd) else (i+q9 (s.drop i),4)
def T7{s:AG}(h:i<s.length):q9 (s.drop i)=if s[i].toNat=101\/s[i].toNat=69 then
  (if i+1<s.length/\((s.getD (i+1) 0).toNat=43\/(s.getD (i+1) 0).toNat=45) then (if eE (s.drop (i+2))=0 then 0 else 2+eE (s.drop (i+2))) else (if eE (s.drop (i+1))=0 then 0 else 1+eE (s.drop (i+1)))) else 0:=by
 unfold q9 F0;have a:(s.drop i).getD 0 0=s[i]:=by rw[List.drop_eq_getElem_cons h];rfl
 have e1:(s.drop i).getD 1 0=s.getD (i+1) 0:=by simp[List.getD]
 rw[a,e1];simp only[List.drop_drop,length_drop];grind
theorem RM{s:AG}(h:s.length<=i):q9 (s.drop i)=0:=by rw[drop_eq_nil_of_le h];rfl
def iH{b:Int}(h:a≠b):(a==b)=false:=WZ
def Fe{b:Int}(h:a=b):(a==b)=true:=WZ
def T8(s:AG)(i:Nat)(o:Int)(hs:s.length<=4611686018427387000)(X:i<=s.length):
  AB prog Tryz.f285.ntmps [] (wQ 8 (uC Tryz.f285)) (fin [2,3] (λe _=>∃v,e = .ret v/\AC v (.tup [.int .i64 (KY s i o).1, .int .i64 (KY s i o).2])))
   [(0, .str s),(4, .int .i64 (i:Int)),(6, .int .i64 o)] ⟨[],[]⟩:=by
 unfold KY;by_cases p:i<s.length
 ·have r:decide ((i:Int)<(s.length:Int))=true:=decide_eq_true om;have x1:=f9 p;have u:=PM s (i+1) om om;have w:=PM s (i+2) om om;have f:=iV (s.drop (i+1));have g:=iV (s.drop (i+2));rw[length_drop]at f g;have a:=T7 p;by_cases q:s[i].toNat=101\/s[i].toNat=69
  ·rw[if_pos q]at a;have e1:((s[i].toNat:Int)==101)=decide (s[i].toNat=101):=by rw[Bool.eq_iff_iff,beq_iff_eq,decide_eq_true_eq];omega
   have d:((s[i].toNat:Int)==69)=decide (s[i].toNat=69):=W9
   by_cases l:i+1<s.length
   ·have t:decide ((i:Int)+1<(s.length:Int))=true:=decide_eq_true om;have x:=f9 l;rw[Jn l]at a;by_cases b:s[i+1].toNat=43\/s[i+1].toNat=45
    ·rw[if_pos ⟨l,b⟩]at a;by_cases c:eE (s.drop (i+2))=0
     ·have k:decide (0<(eE (s.drop (i+2)):Int))=false:=decide_eq_false om;rw[if_pos c]at a;rw[if_pos a];rcases q with q|q<;>rcases b with b|b<;>rw[q]at e1 d
      all_goals
       have m:((s[i+1].toNat:Int)==43)=decide (s[i+1].toNat=43):=W9
       have n:((s[i+1].toNat:Int)==45)=decide (s[i+1].toNat=45):=W9
       rw[b]at m n;repeat' first|refine .s1 ?_|(refine .q ?_ ?_<;>intro O)|refine bL (j:=i) rfl rfl rfl rfl rfl Wh ?_|refine bL (j:=i+1) rfl rfl rfl rfl rfl Wh ?_|fail
       all_goals first|exact cL rfl rfl (aG _)|(exfalso;simp_all;done)
     ·have k:decide (0<(eE (s.drop (i+2)):Int))=true:=decide_eq_true om;rw[if_neg c]at a;rw[if_neg om,a];rcases q with q|q<;>rcases b with b|b<;>rw[q]at e1 d
      all_goals
       have m:((s[i+1].toNat:Int)==43)=decide (s[i+1].toNat=43):=W9
       have n:((s[i+1].toNat:Int)==45)=decide (s[i+1].toNat=45):=W9
       rw[b]at m n;repeat' first|refine .s1 ?_|(refine .q ?_ ?_<;>intro O)|refine bL (j:=i) rfl rfl rfl rfl rfl Wh ?_|refine bL (j:=i+1) rfl rfl rfl rfl rfl Wh ?_|fail
       all_goals first|(refine cL rfl rfl (AC.eq ?_);congr 2;congr 1;omega)|(exfalso;simp_all;done)
    ·rw[if_neg (λh=>b h.2)]at a;have m:((s[i+1].toNat:Int)==43)=false:=iH om;have n:((s[i+1].toNat:Int)==45)=false:=iH om;by_cases c:eE (s.drop (i+1))=0
     ·have k:decide (0<(eE (s.drop (i+1)):Int))=false:=decide_eq_false om;rw[if_pos c]at a;rw[if_pos a];rcases q with q|q<;>rw[q]at e1 d
      all_goals
       repeat' first|refine .s1 ?_|(refine .q ?_ ?_<;>intro O)|refine bL (j:=i) rfl rfl rfl rfl rfl Wh ?_|refine bL (j:=i+1) rfl rfl rfl rfl rfl Wh ?_|fail
       all_goals first|exact cL rfl rfl (aG _)|(exfalso;simp_all;done)
     ·have k:decide (0<(eE (s.drop (i+1)):Int))=true:=decide_eq_true om;rw[if_neg c]at a;rw[if_neg om,a];rcases q with q|q<;>rw[q]at e1 d
      all_goals
       repeat' first|refine .s1 ?_|(refine .q ?_ ?_<;>intro O)|refine bL (j:=i) rfl rfl rfl rfl rfl Wh ?_|refine bL (j:=i+1) rfl rfl rfl rfl rfl Wh ?_|fail
       all_goals first|(refine cL rfl rfl (AC.eq ?_);congr 2;congr 1;omega)|(exfalso;simp_all;done)
   ·have t:decide ((i:Int)+1<(s.length:Int))=false:=decide_eq_false om;have c:eE (s.drop (i+1))=0:=by rw[drop_eq_nil_of_le om];rfl
    have k:decide (0<(eE (s.drop (i+1)):Int))=false:=decide_eq_false om;rw[if_neg (λh=>l h.1),if_pos c]at a;rw[if_pos a];rcases q with q|q<;>rw[q]at e1 d
    all_goals
     repeat' first|refine .s1 ?_|(refine .q ?_ ?_<;>intro O)|refine bL (j:=i) rfl rfl rfl rfl rfl Wh ?_|fail
     all_goals first|exact cL rfl rfl (aG _)|(exfalso;simp_all;done)
  ·rw[if_neg q]at a;have e1:((s[i].toNat:Int)==101)=false:=iH om;have d:((s[i].toNat:Int)==69)=false:=iH om;rw[if_pos a];repeat' first|refine .s1 ?_|(refine .q ?_ ?_<;>intro O)|refine bL (j:=i) rfl rfl rfl rfl rfl Wh ?_|fail
   exact cL rfl rfl (aG _)
 ·have r:decide ((i:Int)<(s.length:Int))=false:=decide_eq_false om;rw[if_pos (RM om)];refine .go ?_;exact cL rfl rfl (aG _)
theorem KZ(d c:UInt8)(r:AG):pfx [d] (c::r)=(c==d):=by rw[Bool.eq_iff_iff];simp[pfx]
def T9(s:AG)(i:Nat)(hs:s.length<=4611686018427387000)(X:i<=s.length):
  AB prog Tryz.f285.ntmps [] (wQ 7 (uC Tryz.f285)) (fin [2,3] (λe _=>∃v,e = .ret v/\AC v (.tup [.int .i64 (KY s (C7 s i).1 (C7 s i).2).1, .int .i64 (KY s (C7 s i).1 (C7 s i).2).2])))
   [(0, .str s),(4, .int .i64 (i:Int)),(6, .int .i64 3)] ⟨[],[]⟩:=by
 unfold C7;by_cases f:i<s.length
 ·have g:decide ((i:Int)<(s.length:Int))=true:=decide_eq_true om;have x1:=f9 f;have l:=PM s (i+1) om om;have c:=iV (s.drop (i+1));rw[length_drop]at c;have b:pfx [46] (s.drop i)=(s[i]==46):=by rw[List.drop_eq_getElem_cons f,KZ]
  by_cases q:s[i]=46
  ·have e1:((s[i].toNat:Int)==46)=true:=by rw[q];rfl
   rw[b,if_pos Y5];by_cases d:eE (s.drop (i+1))=0
   ·have k:decide (0<(eE (s.drop (i+1)):Int))=false:=decide_eq_false om;rw[if_pos d];have a:=T8 s i 3 hs X;repeat' first|(refine AB.weaken a ?_;exact Z9)|refine .s1 ?_|(refine .q ?_ ?_<;>intro O)|refine bL (j:=i) rfl rfl rfl rfl rfl Wh ?_|fail
   ·have k:decide (0<(eE (s.drop (i+1)):Int))=true:=decide_eq_true om;rw[if_neg d];have a:=T8 s (i+1+eE (s.drop (i+1))) 4 hs om;repeat' first|(refine AB.weaken a ?_;exact Z9)|refine .s1 ?_|(refine .q ?_ ?_<;>intro O)|refine bL (j:=i) rfl rfl rfl rfl rfl Wh ?_|fail
  ·have e1:((s[i].toNat:Int)==46)=false:=iH (λh=>q (UInt8.toNat_inj.1 (by
    have:s[i].toNat=46:=om
    rw[this];rfl)))
   rw[b,if_neg Y5];have a:=T8 s i 3 hs X;repeat' first|(refine AB.weaken a ?_;exact Z9)|refine .s1 ?_|(refine .q ?_ ?_<;>intro O)|refine bL (j:=i) rfl rfl rfl rfl rfl Wh ?_|fail
 ·have g:decide ((i:Int)<(s.length:Int))=false:=decide_eq_false om;have b:pfx [46] (s.drop i)=false:=by rw[drop_eq_nil_of_le om];rfl
  rw[b,if_neg Wd];have a:=T8 s i 3 hs X;repeat' first|(refine AB.weaken a ?_;exact Z9)|refine .s1 ?_|(refine .q ?_ ?_<;>intro O)|fail
theorem JD(s:AG):zN s=if bR s=0 then (0,0) else KY s (C7 s (bR s)).1 (C7 s (bR s)).2:=rfl
def RO(s:AG)(hs:s.length<=4611686018427387000):AN prog 285 [.str s] (.tup [.int .i64 (zN s).1, .int .i64 (zN s).2]):=by
 refine AI.plain rfl rfl (aS [2,3] func285 ?_);rw[JD];by_cases h0:s.length=0
 ·obtain rfl:=List.eq_nil_of_length_eq_zero h0;have hr:=PM [] 0 Wb Wb;have m:eE (([]:AG).drop 0)=0:=rfl;rw[m]at hr;refine .go ?_;exact cL rfl rfl (aG _)
 ·have f:0<s.length:=om
  have n:decide ((0:Int)<(s.length:Int))=true:=decide_eq_true om;have x0:=f9 f;have i:pfx [45] s=(s[0]==45):=by
   cases s with
   |nil=>simp at f
   |cons c s=>rw[Bool.eq_iff_iff];simp[pfx]
  have e:∀b:Nat,b<=s.length->bR s=iB s b->(eE (s.drop b)=0\/((eE (s.drop b):Int)≠0/\∃h:b<s.length,bR s=if s[b]=48 then b+1 else b+eE (s.drop b))):=λb X hw=>by
   by_cases c:eE (s.drop b)=0
   ·exact .inl c
   ·have g:=iV (s.drop b);rw[length_drop]at g;have d:b<s.length:=om
    refine .inr ⟨om,d, ?_⟩;rw[hw,iB,if_neg c,f9 d];simp
  by_cases q:s[0]=45
  ·have e1:((s[0].toNat:Int)==45)=true:=by rw[q];rfl
   have hw:bR s=iB s 1:=by rw[bR,i,if_pos Y5]
   have hr:=PM s 1 om om;have g:=iV (s.drop 1);rw[length_drop]at g;rcases e 1 om hw with c|⟨c,d,hw2⟩
   ·have k:((eE (s.drop 1):Int)==0)=true:=Fe om;rw[hw,iB,if_pos c,if_pos rfl];repeat' first|refine .s1 ?_|(refine .q ?_ ?_<;>intro O)|refine bL (j:=0) rfl rfl rfl rfl rfl Wh ?_|fail
    exact cL rfl rfl (aG _)
   ·have k:((eE (s.drop 1):Int)==0)=false:=iH c;have o:=f9 d;by_cases z:s[1]=48
    ·have l:((s[1].toNat:Int)==48)=true:=by rw[z];rfl
     rw[if_pos z]at hw2;have a:=T9 s 2 hs om;rw[hw2,if_neg om];repeat' first|(refine AB.weaken a ?_;exact Z9)|refine .s1 ?_|(refine .q ?_ ?_<;>intro O)|refine bL (j:=0) rfl rfl rfl rfl rfl Wh ?_|refine bL (j:=1) rfl rfl rfl rfl rfl Wh ?_|fail
    ·have l:((s[1].toNat:Int)==48)=false:=iH (λh=>z (UInt8.toNat_inj.1 (by
      have:s[1].toNat=48:=om
      rw[this];rfl)))
     rw[if_neg z]at hw2;have a:=T9 s (1+eE (s.drop 1)) hs om;rw[hw2,if_neg om];repeat' first|(refine AB.weaken a ?_;exact Z9)|refine .s1 ?_|(refine .q ?_ ?_<;>intro O)|refine bL (j:=0) rfl rfl rfl rfl rfl Wh ?_|refine bL (j:=1) rfl rfl rfl rfl rfl Wh ?_|fail
  ·have e1:((s[0].toNat:Int)==45)=false:=iH (λh=>q (UInt8.toNat_inj.1 (by
    have:s[0].toNat=45:=om
    rw[this];rfl)))
   have hw:bR s=iB s 0:=by rw[bR,i,if_neg Y5]
   have hr:=PM s 0 om om;have g:=iV (s.drop 0);rw[length_drop]at g;rcases e 0 om hw with c|⟨c,d,hw2⟩
   ·have k:((eE (s.drop 0):Int)==0)=true:=Fe om;rw[hw,iB,if_pos c,if_pos rfl];repeat' first|refine .s1 ?_|(refine .q ?_ ?_<;>intro O)|refine bL (j:=0) rfl rfl rfl rfl rfl Wh ?_|fail
    exact cL rfl rfl (aG _)
   ·have k:((eE (s.drop 0):Int)==0)=false:=iH c;by_cases z:s[0]=48
    ·have l:((s[0].toNat:Int)==48)=true:=by rw[z];rfl
     rw[if_pos z]at hw2;have a:=T9 s 1 hs om;rw[hw2,if_neg om];repeat' first|(refine AB.weaken a ?_;exact Z9)|refine .s1 ?_|(refine .q ?_ ?_<;>intro O)|refine bL (j:=0) rfl rfl rfl rfl rfl Wh ?_|fail
    ·have l:((s[0].toNat:Int)==48)=false:=iH (λh=>z (UInt8.toNat_inj.1 (by
      have:s[0].toNat=48:=om
      rw[this];rfl)))
     rw[if_neg z]at hw2;have a:=T9 s (0+eE (s.drop 0)) hs om;rw[hw2,if_neg om];repeat' first|(refine AB.weaken a ?_;exact Z9)|refine .s1 ?_|(refine .q ?_ ?_<;>intro O)|refine bL (j:=0) rfl rfl rfl rfl rfl Wh ?_|fail
def Cy(s:AG)(hs:s.length<=4611686018427387000):AN prog 232 [.str s] (.int .i64 (m5 s)):=by
 refine AI.plain rfl rfl (aS [2] func232 ?_);have hn:=RO s hs;unfold m5;by_cases c:(zN s).1=s.length
 ·have e:(((zN s).1:Int) != (s.length:Int))=false:=by rw[c];simp
  refine .go ?_;refine aP rfl (AC.eq ?_);simp_all
 ·have e:(((zN s).1:Int) != (s.length:Int))=true:=by simp;omega
  refine .go ?_;refine aP rfl (AC.eq ?_);simp_all
end Go.Proofs.YtimbiifcnhgcoaaGreatDoor
namespace Go.Av
open Go
section
variable [AL]
variable {P:Program} {A:Array Oper} {G:Bool} {K:AX->AE->St->Prop} {C:List Oper} {I:List Aj} {s:AE} {H:St} {d:Tmp} {R:TypeId} {D:String} {S:Array Edge}
def Vp{x:Operand}{T:TypeId}{k:IntKind}{m r:Int}(h:ev? s x=some (.int k m))(hr:k.wrap (0-m)=r)(f:AD P A G K C (.pure::I) ((d, .int k r)::s) H):
  AD P A G K (⟨some d, .unOp .neg T x,R,D,S,none⟩::C) I s H:=
 bU rfl (eY λg w a e=>by
  have c:=e x We
  rw[pW h]at c
  have b:a.eval x = .int k m:=c
  refine⟨.int k r, ?_,rfl⟩
  subst hr
  simp[execOp,b,Op.unary,Op.intArith]) f
end
end Go.Av
namespace Go.Proofs.YtimbiifcnhgcoaaGreatDoor
open Go Go.Av Go.Proofs.Tryz
attribute [local irreducible] AB AD AN AI Av.AU AZ
def PN(h:l≠[]):fO l=if (kU l).2=0 then false else fO (l.drop (kU l).2):=by
 unfold fO kU;rw[Lib.validD_step l h];have hw:=Lib.decodeL_width l;by_cases c:(Lib.decodeL l).1=65533/\(Lib.decodeL l).2=1
 ·have e:Lib.decodeL l=(65533,1):=Prod.ext c.1 c.2;rw[if_pos c,if_pos e];rfl
 ·have e:Lib.decodeL l≠(65533,1):=λh=>c (by rw[h];exact⟨rfl,rfl⟩)
  rw[if_neg c,if_neg e,if_neg om]
def RP(h:l≠[]):(kU l).2<=l.length/\(kU l).1<=1114111:=by
 unfold kU;split
 ·simp
 ·exact⟨Lib.decodeL_le l h,Lib.decodeL_rune l⟩
def aAM(s:AG)(hs:s.length<=1048576):AN prog 286 [.str s] (.tup [.undef, .bool (fO s)]):=by
 refine AI.plain rfl rfl (aS [2,3] func286 ?_);refine .go ?_;change AB _ _ _ _ _ _ _;refine eX 4 false 1 rfl rfl rfl rfl rfl rfl ?_;refine AB.loop (λn d H=>∃(i:Nat) (xs:List Int),n=s.length-i/\i<=s.length/\xs.length<=i/\fO s=fO (s.drop i)/\H=⟨[],[.len xs.length]⟩/\
  d=[(5, .int .i64 (i:Int)),(4, .slice (xs.map (AV.int .i64)) (.own 0 1)),(0, .str s)])
  (s0:=[(5, .int .i64 ((0:Nat):Int)),(4, .slice (([]:List Int).map (AV.int .i64)) (.own 0 1)),(0, .str s)]) Z9 ⟨0,[],rfl,Nat.zero_le _,Nat.le_refl _,rfl,rfl,rfl⟩ ?_
 rintro n d H ⟨i,xs,rfl,X,hxs,hp,rfl,rfl⟩;by_cases h:i<s.length
 ·have g:decide ((i:Int)<(s.length:Int))=true:=decide_eq_true om;have b:s.drop i≠[]:=by intro e;have:=congrArg List.length e;rw[length_drop]at this;simp at this;omega
  have O:=aC1 s i h om;have a:=PN b;have f:=RP b;rw[length_drop]at f;unfold Of at O;by_cases c:(kU (s.drop i)).2=0
  ·have e1:(((kU (s.drop i)).2:Int)==0)=true:=Fe om;refine .go ?_;refine cL rfl rfl (AC.tup (AA.cons (AC.undef _) (AA.cons (AC.eq (congrArg AV.bool ?_)) (aB _))));rw[hp,a,if_pos c]
  ·have e1:(((kU (s.drop i)).2:Int)==0)=false:=iH om;rw[if_neg c,List.drop_drop]at a
   repeat' first|refine .s1 ?_|(refine .q ?_ ?_<;>intro O)|refine bW (n:=xs.length) rfl rfl rfl rfl rfl rfl rfl rfl (List.length_map ..) rfl Wa Wa rfl ?_|fail
   refine⟨s.length-(i+(kU (s.drop i)).2),om,[(5, .int .i64 ((i+(kU (s.drop i)).2:Nat):Int)),(4, .slice ((xs++[((kU (s.drop i)).1:Int)]).map (AV.int .i64)) (.own 0 1)),(0, .str s)],
    ⟨congrArg (AV.int .i64) om,Xp,rfl,trivial⟩,by simp[aM,AV.ab, -List.map_append],rfl,i+(kU (s.drop i)).2,xs++[((kU (s.drop i)).1:Int)],rfl,om,by rw[List.length_append];simp;omega,by rw[hp,a],YM,rfl⟩
 ·have g:decide ((i:Int)<(s.length:Int))=false:=decide_eq_false om;refine .go ?_;refine cL rfl rfl (AC.tup (AA.cons (AC.undef _) (AA.cons (AC.eq (congrArg AV.bool ?_)) (aB _))));rw[hp,drop_eq_nil_of_le om];rfl
def Im(s:AG)(hs:s.length<=1048576):AN prog 234 [.str s] (.bool (fO s)):=by have h:=aAM s hs;refine AI.plain rfl rfl (aS [2] func234 ?_);refine .go ?_;exact bY
def dOf(c:UInt8):Nat:=(c.toNat+208) % 256
def Cz(c:UInt8):Int:=Int.tdiv (-9223372036854775808+(dOf c:Int)) 10
def o7:Int->AG->Option Int
 |n,[]=>some n
 |n,c::r=>if n<Cz c then none else o7 (10 * n-dOf c) r
def Gy(s:AG):Bool:=s.head? ==some 45
def C0(s:AG):Bool:=match o7 0 (if Gy s=true then s.drop 1 else s) with
 |none=>false
 |some n=>Gy s||n != -9223372036854775808
def ML{s:AG}{k:Nat}{n:Int}(h:k<s.length):o7 n (s.drop k)=if n<Cz s[k] then none else o7 (10 * n-dOf s[k]) (s.drop (k+1)):=by rw[List.drop_eq_getElem_cons h,o7]
def MM(c:UInt8):dOf c<256:=Nat.mod_lt _ Wd
def Og(c:UInt8)(n:Int):n<Cz c↔10 * n < -9223372036854775808+(dOf c:Int):=by have a:=MM c;unfold Cz;grind
def aAN(c:UInt8) : -9223372036854775808<=Cz c/\Cz c<=0:=by have a:=MM c;unfold Cz;grind
def RQ(c:UInt8):IntKind.i64.wrap (Int.tdiv (-9223372036854775808+(dOf c:Int)) 10)=Cz c:=IntWalk.i64_in _ (by have:=aAN c;unfold Cz at this;omega)
def RR(c:UInt8):IntKind.i64.wrap (IntKind.u8.wrap ((c.toNat:Int)-48))=(dOf c:Int):=by
 have:∀c:Fin 256,IntKind.i64.wrap (IntKind.u8.wrap ((c.val:Int)-48))=(((c.val+208) % 256:Nat):Int):=Xe
 exact this ⟨c.toNat,UInt8.toNat_lt c⟩
attribute [local irreducible] decLt decLe Int.le Int.lt Cz in
def Gz(s:AG)(hs:s.length<=1048576):AN prog 233 [.str s] (.tup [.undef, .bool (C0 s)]):=by
 refine AI.plain rfl rfl (aS [2,3] func233 ?_);have d:∀(f:Nat) (g:Bool),f<=s.length->Gy s=g->(if Gy s=true then s.drop 1 else s)=s.drop f->
   AB prog Tryz.f233.ntmps [] (wQ 4 (uC Tryz.f233)) (fin [2,3] (λe _=>∃v,e = .ret v/\AC v (.tup [.undef, .bool (C0 s)])))
    [(0, .str s),(4, .int .i64 (f:Int)),(5, .bool g),(6, .int .i64 0)] ⟨[],[]⟩:=λf g u a i=>by
  have b:C0 s=match o7 0 (s.drop f) with
   |none=>false
   |some n=>g||n != -9223372036854775808:=by unfold C0;rw[i,a]
  refine .go ?_;change AB _ _ _ _ _ _ _;refine AB.loop (λm t H=>∃(k:Nat) (n:Int),m=s.length-k/\k<=s.length /\ -9223372036854775808<=n/\n<=0/\o7 0 (s.drop f)=o7 n (s.drop k)/\H=⟨[],[]⟩/\
   t=[(4, .int .i64 (k:Int)),(6, .int .i64 n),(0, .str s),(5, .bool g)])
   (s0:=[(4, .int .i64 (f:Int)),(6, .int .i64 0),(0, .str s),(5, .bool g)]) Z9 ⟨f,0,rfl,u,om,om,rfl,rfl,rfl⟩ ?_
  rintro m t H ⟨k,n,rfl,hk,hn1,hn2,hp,rfl,rfl⟩;by_cases w:k<s.length
  ·have d1:decide ((k:Int)<(s.length:Int))=true:=decide_eq_true om;have x1:=f9 w;have x:=ML (n:=n) w;have l:=Og s[k] n;have a3:=MM s[k];have hw:=RQ s[k];by_cases c:n<Cz s[k]
   ·have d2:decide (n<Cz s[k])=true:=decide_eq_true c;repeat' first|refine .s1 ?_|(refine .q ?_ ?_<;>intro O)|refine .is ?_|refine QP rfl rfl ?_|refine gC rfl rfl rfl rfl (RR _) ?_|refine NP rfl rfl Wd hw ?_|fail
    refine cL rfl rfl (AC.tup (AA.cons (AC.undef _) (AA.cons (AC.eq (congrArg AV.bool ?_)) (aB _))));rw[b,hp,x,if_pos c]
   ·have d2:decide (n<Cz s[k])=false:=decide_eq_false c;have a2 : -9223372036854775808+(dOf s[k]:Int)<=10 * n:=by have:=mt l.2 c;omega
    repeat' first|refine .s1 ?_|(refine .q ?_ ?_<;>intro O)|refine .is ?_|refine tF rfl rfl rfl om ?_|refine QP rfl rfl ?_|refine gC rfl rfl rfl rfl (RR _) ?_|refine NP rfl rfl Wd hw ?_|refine NQ rfl rfl rfl om ?_|fail
    refine⟨s.length-(k+1),om,[(4, .int .i64 ((k+1:Nat):Int)),(6, .int .i64 (10 * n-(dOf s[k]:Int))),(0, .str s),(5, .bool g)],Z9,Wj,rfl,k+1,10 * n-(dOf s[k]:Int),rfl,om,om,om,by rw[hp,x,if_neg c],rfl,rfl⟩
  ·have d1:decide ((k:Int)<(s.length:Int))=false:=decide_eq_false om;have o:o7 0 (s.drop f)=some n:=by rw[hp,drop_eq_nil_of_le om,o7]
   rw[o]at b;cases y:g with
   |true=>subst y;refine .go ?_;refine cL rfl rfl (AC.tup (AA.cons (AC.undef _) (AA.cons (AC.eq (congrArg AV.bool ?_)) (aB _))));rw[b];rfl
   |false=>
    subst y;simp only[Bool.false_or]at b;by_cases c:n = -9223372036854775808
    ·have e1:(n == -9223372036854775808)=true:=Fe c;refine .go ?_;refine cL rfl rfl (AC.tup (AA.cons (AC.undef _) (AA.cons (AC.eq (congrArg AV.bool ?_)) (aB _))));rw[b,c];rfl
    ·have e1:(n == -9223372036854775808)=false:=iH c;repeat' first|refine .s1 ?_|(refine .q ?_ ?_<;>intro O)|refine Vp rfl (IntWalk.i64_in _ om) ?_|fail
     refine cL rfl rfl (AC.tup (AA.cons (AC.undef _) (AA.cons (AC.eq (congrArg AV.bool ?_)) (aB _))));rw[b,bne,e1];rfl
 by_cases h0:s=[]
 ·have l:=d 0 false om XO XO;subst h0;repeat' first|(refine AB.weaken l ?_;exact Z9)|refine .s1 ?_|(refine .q ?_ ?_<;>intro O)|fail
 ·have e0:(s != [])=true:=by simpa using h0
  have p:0<s.length:=List.length_pos_iff.2 h0;have x0:=f9 p;have z:s.head? =some s[0]:=by cases s with
   |nil=>exact absurd rfl h0
   |cons c r=>rfl
  by_cases q:s[0]=45
  ·have e1:((s[0].toNat:Int)==45)=true:=by rw[q];rfl
   have a:Gy s=true:=by unfold Gy;rw[z,q];rfl
   have l:=d 1 true om a (by rw[if_pos a]);repeat' first|(refine AB.weaken l ?_;exact Z9)|refine .s1 ?_|(refine .q ?_ ?_<;>intro O)|refine bL (j:=0) rfl rfl rfl rfl rfl Wh ?_|fail
  ·have e1:((s[0].toNat:Int)==45)=false:=iH (λh=>q (UInt8.toNat_inj.1 (by
    have:s[0].toNat=45:=om
    rw[this];rfl)))
   have a:Gy s=false:=by unfold Gy;rw[z];simpa using q
   have l:=d 0 false om a (by rw[if_neg (by rw[a];decide)];rfl);repeat' first|(refine AB.weaken l ?_;exact Z9)|refine .s1 ?_|(refine .q ?_ ?_<;>intro O)|refine bL (j:=0) rfl rfl rfl rfl rfl Wh ?_|fail
section
def K0:∀l:AG,eE l=l.length->∀c∈l,pD c=true
 |[],_,c,h=>by simp at h
 |x::l,h,c,O=>by
  rw[eE]at h;by_cases e:pD x=true
  ·rw[if_pos e]at h;have a:eE l=l.length:=by simpa using h
   rcases List.mem_cons.1 O with rfl|O
   ·exact e
   ·exact K0 l a c O
  ·simp_all
def PO{s:AG}(h:m5 s=3):bR s=s.length/\bR s≠0:=by
 unfold m5 at h;by_cases c:(zN s).1=s.length
 ·rw[if_pos c]at h;rw[JD]at c h;by_cases w:bR s=0
  ·simp_all
  ·rw[if_neg w]at c h;refine⟨?_,w⟩;unfold KY at c h;split at c
   ·rename_i hp;rw[if_pos hp]at h;unfold C7 at c h;grind
   ·simp_all
 ·omega
def C1{s:AG}{n:Nat}(h:iB s n=s.length)(h0:s.length≠0):s.drop n≠[]/\∀c∈s.drop n,pD c=true:=by
 unfold iB at h;split at h
 ·omega
 ·rename_i d;have b:=iV (s.drop n);refine⟨λe=> ?_, ?_⟩
  ·simp_all
  ·split at h
   ·rename_i hz;have hn:n<s.length:=om
    have e1:s.drop n=[s[n]]:=by rw[List.drop_eq_getElem_cons hn,drop_eq_nil_of_le om]
    have a:s[n]=48:=by rw[f9 hn]at hz;exact Option.some.inj hz
    rw[e1,a];intro c O;simp at O;subst O;decide
   ·exact K0 _ WD
def vE(I:Nat)(l:AG):Nat:=l.foldl (λa c=>a * 10+(c.toNat-48)) I
theorem GA(I:Nat):vE I []=I:=rfl
theorem DP(I:Nat)(c:UInt8)(r:AG):vE I (c::r)=vE (I * 10+(c.toNat-48)) r:=by unfold vE;rw[List.foldl_cons]
def Oh(l:AG)(I:Nat):I<=vE I l:=by
 induction l generalizing I with
 |nil=>rw[GA];exact Nat.le_refl _
 |cons c r E=>have:=E (I * 10+(c.toNat-48));rw[DP];omega
def GB{c:UInt8}:pD c=true↔48<=c.toNat/\c.toNat<=57:=by simp[pD]
def Ua{c:UInt8}(h:pD c=true):dOf c=c.toNat-48:=by have:=GB.1 h;unfold dOf;omega
theorem tZ:∀(l:AG) (I:Nat),(∀c∈l,pD c=true)->I<=9223372036854775808->o7 (-(I:Int)) l=if vE I l<=9223372036854775808 then some (-(vE I l:Int)) else none
 |[],I,_,ha=>by rw[o7,GA,if_pos ha]
 |c::r,I,h,ha=>by
  have O:=h c Wb;have a:=Ua O;have d:=Og c (-(I:Int));have b:=Oh r (I * 10+(c.toNat-48));rw[o7,DP];by_cases k : -(I:Int)<Cz c
  ·grind
  ·rw[if_neg k];have e:10 * -(I:Int)-(dOf c:Int) = -((I * 10+(c.toNat-48):Nat):Int):=om
   rw[e,tZ r _ (λx hx=>h x (List.mem_cons_of_mem _ hx)) om]
theorem yN:∀(l:AG) (I:Nat),(∀c∈l,pD c=true)->I<=18446744073709551615->Lib.parseUintM 18446744073709551615 I l=if vE I l<=18446744073709551615 then .ok (vE I l) else .range
 |[],I,_,ha=>by rw[Lib.parseUintM,GA,if_pos ha]
 |c::r,I,h,ha=>by
  have O:=GB.1 (h c Wb);have b:=Oh r (I * 10+(c.toNat-48));rw[Lib.parseUintM,DP,if_pos O];by_cases k:1844674407370955162<=I
  ·grind
  ·rw[if_neg k];by_cases a:18446744073709551615<I * 10+(c.toNat-48)
   ·grind
   ·rw[if_neg a,yN r _ (λx hx=>h x (List.mem_cons_of_mem _ hx)) om]
theorem yO(a:l≠[])(h:∀c∈l,pD c=true):Lib.parseUintB 64 l=if vE 0 l<=18446744073709551615 then .ok (vE 0 l) else .range:=by rw[Lib.parseUintB,if_neg a];exact yN l 0 h om
theorem aAO{s:AG}(h:m5 s=3):C0 s=C6 s:=by
 obtain⟨hw,h0⟩:=PO h;cases s with
 |nil=>simp at hw;exact absurd hw h0
 |cons c r=>
  rw[bR,KZ]at hw;by_cases q:c=45
  ·subst q;obtain⟨f,i⟩:=C1 hw Wb;have b:r≠[]:=f;have a:∀x∈r,pD x=true:=i;have e:Gy (45::r)=true:=rfl;have hf:=tZ r 0 a om;have d:o7 0 r=if vE 0 r<=9223372036854775808 then some (-(vE 0 r:Int)) else none:=hf
   unfold C0 C6;rw[e,if_pos rfl,Lib.parseIntB_minus,yO b a];show (match o7 0 r with|none=>false|some n=>true||n != -9223372036854775808)=_;rw[d];by_cases k:vE 0 r<=9223372036854775808
   ·rw[if_pos k,if_pos om];unfold Lib.signedC;grind
   ·rw[if_neg k];by_cases g:vE 0 r<=18446744073709551615
    ·rw[if_pos g];unfold Lib.signedC;simp_all
    ·rw[if_neg g];rfl
  ·have l:(c==45)=false:=by simpa using q
   rw[l,if_neg Wd]at hw;obtain⟨f,i⟩:=C1 hw Wb;have b:(c::r)≠[]:=Wb
   have a:∀x∈(c::r),pD x=true:=i;have O:=GB.1 (a c Wb);have e:Gy (c::r)=false:=by unfold Gy;simpa using q
   have hf:=tZ (c::r) 0 a om;have d:o7 0 (c::r)=if vE 0 (c::r)<=9223372036854775808 then some (-(vE 0 (c::r):Int)) else none:=hf
   unfold C0 C6;rw[e,if_neg Wd,Lib.parseIntB_plain 64 c r om om,yO b a,d];generalize vE 0 (c::r)=V;by_cases k:V<=9223372036854775808
   ·rw[if_pos k,if_pos om];unfold Lib.signlessC;simp only[reduceSub,Nat.reducePow];by_cases j:9223372036854775808<=V
    ·rw[if_pos j];have:(V:Int)=9223372036854775808:=om
     rw[this];rfl
    ·rw[if_neg j];simp;omega
   ·rw[if_neg k];by_cases g:V<=18446744073709551615
    ·rw[if_pos g];unfold Lib.signlessC;simp only[reduceSub,Nat.reducePow];rw[if_pos om]
    ·rw[if_neg g];rfl
def PP(s:AG):m5 s=0\/m5 s=3\/m5 s=4:=by grind[m5,JD,KY,C7]
theorem Ub:m5 []=0:=rfl
theorem Uc(s:AG):R5 s=if s=[]\/m5 s=0 then false else (m5 s==4 || !C0 s):=by
 unfold R5;by_cases h0:s=[]
 ·subst h0;rw[if_pos (.inl rfl),Ub];rfl
 ·rcases PP s with h|h|h
  ·simp_all
  ·rw[if_neg (λe=>e.elim h0 (λa=>om)),aAO h,h];simp
  ·simp_all
end
def aDn(v:AH)(d:v.size<=1048576)(k:v.kind=0)(b:decide ((0:Int)<(v.lv.length:Int)) = !decide (v.l.length=0))(c:decide ((0:Int)<(v.mv.length:Int)) = !decide (v.m.length=0)):AN prog 155 [v.C] (.bool (gW fO v)):=by
 have a:=v.ay;have e:(v.kind==0)=true:=Wf
 have f:(v.kind==2)=false:=Wf
 have g:(v.kind==3)=false:=Wf
 have h:(v.kind==4)=false:=Wf
 have i:(v.kind==5)=false:=Wf
 have j:(v.kind==6)=false:=Wf
 have n:(v.kind==7)=false:=Wf
 have o:(v.kind==8)=false:=Wf
 have p:(v.kind != 1)=true:=Wf
 have r:(v.kind != 2)=true:=Wf
 have t:(v.kind != 6)=true:=Wf
 have u:(v.kind != 7)=true:=Wf
 refine AI.plain rfl Wz (aS [2] func155 ?_);rw[lF,if_neg om,if_neg om];unfold lE;rw[if_pos k];repeat' first|refine .br ?_|refine .s1 ?_|(refine .q ?_ ?_<;>intro O)|fail
 all_goals
  refine Fin.rb ?_;first|(simp_all;done)|(simp_all[bne];done)
def aDo(v:AH)(d:v.size<=1048576)(k:v.kind=1)(b:decide ((0:Int)<(v.lv.length:Int)) = !decide (v.l.length=0))(c:decide ((0:Int)<(v.mv.length:Int)) = !decide (v.m.length=0)):AN prog 155 [v.C] (.bool (gW fO v)):=by
 have a:=v.ay;have e:(v.kind==1)=true:=Wf
 have f:(v.kind==2)=false:=Wf
 have g:(v.kind==3)=false:=Wf
 have h:(v.kind==4)=false:=Wf
 have i:(v.kind==5)=false:=Wf
 have j:(v.kind==6)=false:=Wf
 have n:(v.kind==7)=false:=Wf
 have o:(v.kind==8)=false:=Wf
 have p:(v.kind != 1)=false:=Wf
 have r:(v.kind != 2)=true:=Wf
 have t:(v.kind != 6)=true:=Wf
 have u:(v.kind != 7)=true:=Wf
 refine AI.plain rfl Wz (aS [2] func155 ?_);rw[lF,if_neg om,if_neg om];unfold lE;rw[if_neg (show ¬v.kind=0 by omega)];rw[if_pos k];repeat' first|refine .br ?_|refine .s1 ?_|(refine .q ?_ ?_<;>intro O)|fail
 all_goals
  refine Fin.rb ?_;first|(simp_all;done)|(simp_all[bne];done)
def aDp(v:AH)(d:v.size<=1048576)(k:v.kind=2)(b:decide ((0:Int)<(v.lv.length:Int)) = !decide (v.l.length=0))(c:decide ((0:Int)<(v.mv.length:Int)) = !decide (v.m.length=0)):AN prog 155 [v.C] (.bool (gW fO v)):=by
 have a:=v.ay;have e:(v.kind==2)=true:=Wf
 have f:(v.kind==3)=false:=Wf
 have g:(v.kind==4)=false:=Wf
 have h:(v.kind==5)=false:=Wf
 have i:(v.kind==6)=false:=Wf
 have j:(v.kind==7)=false:=Wf
 have n:(v.kind==8)=false:=Wf
 have o:(v.kind != 1)=true:=Wf
 have p:(v.kind != 2)=false:=Wf
 have r:(v.kind != 6)=true:=Wf
 have t:(v.kind != 7)=true:=Wf
 refine AI.plain rfl Wz (aS [2] func155 ?_);rw[lF,if_neg om,if_neg om];unfold lE;rw[if_neg (show ¬v.kind=0 by omega)];rw[if_neg (show ¬v.kind=1 by omega)];rw[if_pos k];repeat' first|refine .br ?_|refine .s1 ?_|(refine .q ?_ ?_<;>intro O)|fail
 all_goals
  refine Fin.rb ?_;first|(simp_all;done)|(simp_all[bne];done)
def aDq(v:AH)(h:v.size<=1048576)(k:v.kind=3)(b:decide ((0:Int)<(v.lv.length:Int)) = !decide (v.l.length=0))(c:decide ((0:Int)<(v.mv.length:Int)) = !decide (v.m.length=0)):AN prog 155 [v.C] (.bool (gW fO v)):=by
 have a:=v.ay;have e:=Im v.s om;have f:=Cu v.s om;have d:=Cy v.s om;have g:=Gz v.s om;have i:(v.kind==0)=false:=Wf
 have j:(v.kind==1)=false:=Wf
 have n:(v.kind==2)=false:=Wf
 have o:(v.kind==3)=true:=Wf
 have p:(v.kind==4)=false:=Wf
 have r:(v.kind==5)=false:=Wf
 have t:(v.kind==6)=false:=Wf
 have u:(v.kind==7)=false:=Wf
 have w:(v.kind==8)=false:=Wf
 have x:(v.kind != 1)=true:=Wf
 have y:(v.kind != 2)=true:=Wf
 have z:(v.kind != 6)=true:=Wf
 have w7:(v.kind != 7)=true:=Wf
 refine AI.plain rfl Wz (aS [2] func155 ?_);rw[lF,if_neg om,if_neg om];unfold lE;rw[if_neg (show ¬v.kind=0 by omega)];rw[if_neg (show ¬v.kind=1 by omega)];rw[if_neg (show ¬v.kind=2 by omega)];rw[if_pos k];rw[Uc]
 repeat' first|refine .br ?_|refine .s1 ?_|(refine .q ?_ ?_<;>intro O)|fail
 all_goals
  refine Fin.rb ?_
  first|(simp_all;done)|(simp_all[bne];done)
def aDr(v:AH)(h:v.size<=1048576)(k:v.kind=4)(b:decide ((0:Int)<(v.lv.length:Int)) = !decide (v.l.length=0))(c:decide ((0:Int)<(v.mv.length:Int)) = !decide (v.m.length=0)):AN prog 155 [v.C] (.bool (gW fO v)):=by
 have a:=v.ay;have e:=Im v.s om;have f:=Cu v.s om;have d:=Cy v.s om;have g:=Gz v.s om;have i:(v.kind==0)=false:=Wf
 have j:(v.kind==1)=false:=Wf
 have n:(v.kind==2)=false:=Wf
 have o:(v.kind==3)=false:=Wf
 have p:(v.kind==4)=true:=Wf
 have r:(v.kind==5)=false:=Wf
 have t:(v.kind==6)=false:=Wf
 have u:(v.kind==7)=false:=Wf
 have w:(v.kind==8)=false:=Wf
 have x:(v.kind != 1)=true:=Wf
 have y:(v.kind != 2)=true:=Wf
 have z:(v.kind != 6)=true:=Wf
 have w7:(v.kind != 7)=true:=Wf
 refine AI.plain rfl Wz (aS [2] func155 ?_);rw[lF,if_neg om,if_neg om];unfold lE;rw[if_neg (show ¬v.kind=0 by omega)];rw[if_neg (show ¬v.kind=1 by omega)];rw[if_neg (show ¬v.kind=2 by omega)];rw[if_neg (show ¬v.kind=3 by omega)];rw[if_pos k]
 repeat' first|refine .br ?_|refine .s1 ?_|(refine .q ?_ ?_<;>intro O)|fail
 all_goals
  refine Fin.rb ?_
  first|(simp_all;done)|(simp_all[bne];done)
def aDs(v:AH)(h:v.size<=1048576)(k:v.kind=5)(b:decide ((0:Int)<(v.lv.length:Int)) = !decide (v.l.length=0))(c:decide ((0:Int)<(v.mv.length:Int)) = !decide (v.m.length=0)):AN prog 155 [v.C] (.bool (gW fO v)):=by
 have a:=v.ay;have e:=Im v.s om;have f:=Cu v.s om;have d:=Cy v.s om;have g:=Gz v.s om;have i:(v.kind==0)=false:=Wf
 have j:(v.kind==1)=false:=Wf
 have n:(v.kind==2)=false:=Wf
 have o:(v.kind==3)=false:=Wf
 have p:(v.kind==4)=false:=Wf
 have r:(v.kind==5)=true:=Wf
 have t:(v.kind==6)=false:=Wf
 have u:(v.kind==7)=false:=Wf
 have w:(v.kind==8)=false:=Wf
 have x:(v.kind != 1)=true:=Wf
 have y:(v.kind != 2)=true:=Wf
 have z:(v.kind != 6)=true:=Wf
 have w7:(v.kind != 7)=true:=Wf
 refine AI.plain rfl Wz (aS [2] func155 ?_);rw[lF,if_neg om,if_neg om];unfold lE;rw[if_neg (show ¬v.kind=0 by omega)];rw[if_neg (show ¬v.kind=1 by omega)];rw[if_neg (show ¬v.kind=2 by omega)];rw[if_neg (show ¬v.kind=3 by omega)];rw[if_neg (show ¬v.kind=4 by omega)];rw[if_pos k];unfold Um
 repeat' first|refine .br ?_|refine .s1 ?_|(refine .q ?_ ?_<;>intro O)|fail
 all_goals
  refine Fin.rb ?_
  first|(simp_all;done)|(simp_all[bne];done)
def aDw(v:AH)(h:v.size<=1048576)(k:v.kind=8)(b:decide ((0:Int)<(v.lv.length:Int)) = !decide (v.l.length=0))(c:decide ((0:Int)<(v.mv.length:Int)) = !decide (v.m.length=0)):AN prog 155 [v.C] (.bool (gW fO v)):=by
 have a:=v.ay;have e:=Im v.s om;have f:=Cu v.s om;have d:=Cy v.s om;have g:=Gz v.s om;have i:(v.kind==0)=false:=Wf
 have j:(v.kind==1)=false:=Wf
 have n:(v.kind==2)=false:=Wf
 have o:(v.kind==3)=false:=Wf
 have p:(v.kind==4)=false:=Wf
 have r:(v.kind==5)=false:=Wf
 have t:(v.kind==6)=false:=Wf
 have u:(v.kind==7)=false:=Wf
 have w:(v.kind==8)=true:=Wf
 have x:(v.kind != 1)=true:=Wf
 have y:(v.kind != 2)=true:=Wf
 have z:(v.kind != 6)=true:=Wf
 have w7:(v.kind != 7)=true:=Wf
 refine AI.plain rfl Wz (aS [2] func155 ?_);rw[lF,if_neg om,if_neg om];unfold lE;rw[if_neg (show ¬v.kind=0 by omega)];rw[if_neg (show ¬v.kind=1 by omega)];rw[if_neg (show ¬v.kind=2 by omega)];rw[if_neg (show ¬v.kind=3 by omega)];rw[if_neg (show ¬v.kind=4 by omega)];rw[if_neg (show ¬v.kind=5 by omega)];rw[if_pos k]
 repeat' first|refine .br ?_|refine .s1 ?_|(refine .q ?_ ?_<;>intro O)|fail
 all_goals
  refine Fin.rb ?_
  first|(simp_all;done)|(simp_all[bne];done)
def aDx(v:AH)(k:¬(v.kind=0\/v.kind=1\/v.kind=2\/v.kind=3\/v.kind=4\/v.kind=5\/v.kind=6\/v.kind=7\/v.kind=8))(j:decide ((0:Int)<(v.lv.length:Int)) = !decide (v.l.length=0))(n:decide ((0:Int)<(v.mv.length:Int)) = !decide (v.m.length=0)):AN prog 155 [v.C] (.bool (gW fO v)):=by
 simp only[not_or]at k;obtain⟨e,a,b,f,g,h,c,d,i⟩:=k;have o:=iH e;have p:=iH a;have r:=iH b;have t:=iH f;have u:=iH g;have w:=iH h;have x:=iH c;have y:=iH d;have z:=iH i;have w1:(v.kind != 1)=true:=Ww
 have w2:(v.kind != 2)=true:=X9
 have w6:(v.kind != 6)=true:=by simp[c]
 have w7:(v.kind != 7)=true:=by simp[d]
 refine AI.plain rfl Wz (aS [2] func155 ?_);rw[lF,if_neg c,if_neg d];unfold lE;rw[if_neg e,if_neg a,if_neg b,if_neg f,if_neg g,if_neg h,if_neg i,Bool.and_false]
 repeat' first|refine .br ?_|refine .s1 ?_|(refine .q ?_ ?_<;>intro O)|fail
 all_goals exact bY
def aDy(v:AH)(u:v.size<=1048576)(k:v.kind=6)(t:decide ((0:Int)<(v.lv.length:Int)) = !decide (v.l.length=0))(e:decide ((0:Int)<(v.mv.length:Int)) = !decide (v.m.length=0))(E:∀x∈v.l,AN prog 155 [x.C] (.bool (gW fO x))):AN prog 155 [v.C] (.bool (gW fO v)):=by
 have r:=v.ay;have o:=v.bt;have p:=v.b3;have w:(v.kind==0)=false:=Wf
 have y:(v.kind==1)=false:=Wf
 have z:(v.kind==2)=false:=Wf
 have u3:(v.kind==3)=false:=Wf
 have u4:(v.kind==4)=false:=Wf
 have u5:(v.kind==5)=false:=Wf
 have u6:(v.kind==6)=true:=Wf
 have u7:(v.kind==7)=false:=Wf
 have u8:(v.kind==8)=false:=Wf
 have w1:(v.kind != 1)=true:=Wf
 have w2:(v.kind != 2)=true:=Wf
 have w6:(v.kind != 6)=false:=Wf
 have w7:(v.kind != 7)=true:=Wf
 refine AI.plain rfl Wz (aS [2] func155 ?_);rw[lF,if_pos k];by_cases d:v.n=0
 ·have en:(v.n != 0)=false:=by simp[d]
  by_cases c:v.m.length=0
  ·have h:decide ((0:Int)<(v.mv.length:Int))=false:=by rw[e];simp[c]
   by_cases cs:v.s=[]
   ·have es:(v.s != [])=false:=by simp[cs]
    have b:(yK fO v.l&&(v.n==0&&v.s==[]&&decide (v.m.length=0)))=yK fO v.l:=by simp[d,c,cs]
    rw[b];refine .ae ?_;refine bK v.l.length (λj=>[(6, .int .i64 j),(1, .ac v.C)]) (λ_=>⟨[],[]⟩) (λj=>yK fO v.l=yK fO (v.l.drop j)) Z9 rfl rfl λj hj hp=> ?_
    by_cases a:j<v.l.length
    ·have g:decide ((j:Int)<(v.lv.length:Int))=true:=by rw[v.bb];simp[a]
     have x1:=lD a;have f:=DT fO a;have i:=E v.l[j] (getElem_mem a)
     repeat' first|refine .s1 ?_|(refine .q ?_ ?_<;>intro O)|fail
     all_goals first|(refine Fin.rb ?_;rw[hp,f];simp_all;done)|(exact⟨a,Z9,Wj,rfl,rfl,by rw[hp,f];simp_all⟩)
    ·have g:decide ((j:Int)<(v.lv.length:Int))=false:=by rw[v.bb];simp;omega
     refine .go ?_;refine Fin.rb ?_;rw[hp,drop_eq_nil_of_le om,yK]
   ·have es:(v.s != [])=true:=by simp[cs]
    refine .ae ?_;refine Fin.rb ?_;simp[cs]
  ·have h:decide ((0:Int)<(v.mv.length:Int))=true:=by rw[e];simp[c]
   refine .ae ?_;refine Fin.rb ?_;simp[c]
 ·have en:(v.n != 0)=true:=by simp[d]
  refine .ae ?_;refine Fin.rb ?_;simp[d]
def aDz(v:AH)(w:v.size<=1048576)(k:v.kind=7)(e:decide ((0:Int)<(v.lv.length:Int)) = !decide (v.l.length=0))(u:decide ((0:Int)<(v.mv.length:Int)) = !decide (v.m.length=0))(E:∀x∈v.m,AN prog 155 [x.v.C] (.bool (gW fO x.v))):AN prog 155 [v.C] (.bool (gW fO v)):=by
 have t:=v.ay;have p:=v.bt;have r:=v.b3;have y:(v.kind==0)=false:=Wf
 have z:(v.kind==1)=false:=Wf
 have u2:(v.kind==2)=false:=Wf
 have u3:(v.kind==3)=false:=Wf
 have u4:(v.kind==4)=false:=Wf
 have u5:(v.kind==5)=false:=Wf
 have u6:(v.kind==6)=false:=Wf
 have u7:(v.kind==7)=true:=Wf
 have u8:(v.kind==8)=false:=Wf
 have w1:(v.kind != 1)=true:=Wf
 have w2:(v.kind != 2)=true:=Wf
 have w6:(v.kind != 6)=true:=Wf
 have w7:(v.kind != 7)=false:=Wf
 refine AI.plain rfl Wz (aS [2] func155 ?_);rw[lF,if_neg om,if_pos k];by_cases d:v.n=0
 ·have en:(v.n != 0)=false:=by simp[d]
  by_cases c:v.l.length=0
  ·have h:decide ((0:Int)<(v.lv.length:Int))=false:=by rw[e];simp[c]
   by_cases cs:v.s=[]
   ·have es:(v.s != [])=false:=by simp[cs]
    have b:(C8 fO v.m&&(v.n==0&&v.s==[]&&decide (v.l.length=0)))=C8 fO v.m:=by simp[d,c,cs]
    rw[b];refine .ae ?_;refine bK v.m.length (λj=>[(7, .int .i64 j),(1, .ac v.C)]) (λ_=>⟨[],[]⟩) (λj=>C8 fO v.m=C8 fO (v.m.drop j)) Z9 rfl rfl λj hj hp=> ?_
    by_cases a:j<v.m.length
    ·have g:decide ((j:Int)<(v.mv.length:Int))=true:=by rw[v.bn];simp[a]
     have x1:=rX a;have f:=x4 fO a;have i:=E v.m[j] (getElem_mem a);have o:=Im v.m[j].name (by have:=Lf a;omega)
     repeat' first|refine .s1 ?_|(refine .q ?_ ?_<;>intro O)|fail
     all_goals first|(refine Fin.rb ?_;rw[hp,f];simp_all;done)|(exact⟨a,Z9,Wj,rfl,rfl,by rw[hp,f];simp_all⟩)
    ·have g:decide ((j:Int)<(v.mv.length:Int))=false:=by rw[v.bn];simp;omega
     refine .go ?_;refine Fin.rb ?_;rw[hp,drop_eq_nil_of_le om,C8]
   ·have es:(v.s != [])=true:=by simp[cs]
    refine .ae ?_;refine Fin.rb ?_;simp[cs]
  ·have h:decide ((0:Int)<(v.lv.length:Int))=true:=by rw[e];simp[c]
   refine .ae ?_;refine Fin.rb ?_;simp[c]
 ·have en:(v.n != 0)=true:=by simp[d]
  refine .ae ?_;refine Fin.rb ?_;simp[d]
def GC:∀N:Nat,N<=1048576->∀v:AH,v.size<=N->AN prog 155 [v.C] (.bool (gW fO v))
 |0,_,v,c=>absurd c X3
 |N+1,p,v,c=>by
  have E:=GC N om
  have a:decide ((0:Int)<(v.lv.length:Int)) = !decide (v.l.length=0):=by rw[v.bb,Bool.eq_iff_iff];simp only[decide_eq_true_eq,Bool.not_eq_true', decide_eq_false_iff_not];omega
  have b:decide ((0:Int)<(v.mv.length:Int)) = !decide (v.m.length=0):=by rw[v.bn,Bool.eq_iff_iff];simp only[decide_eq_true_eq,Bool.not_eq_true', decide_eq_false_iff_not];omega
  by_cases d:v.kind=0
  ·exact aDn v om d a b
  by_cases e:v.kind=1
  ·exact aDo v om e a b
  by_cases f:v.kind=2
  ·exact aDp v om f a b
  by_cases g:v.kind=3
  ·exact aDq v om g a b
  by_cases h:v.kind=4
  ·exact aDr v om h a b
  by_cases i:v.kind=5
  ·exact aDs v om i a b
  by_cases o:v.kind=8
  ·exact aDw v om o a b
  by_cases k:v.kind=6
  ·exact aDy v om k a b (λx hx=>E x (by
    obtain⟨j,hj,rfl⟩:=List.getElem_of_mem hx
    have:=dK hj;omega))
  by_cases n:v.kind=7
  ·exact aDz v om n a b (λx hx=>E x.v (by
    obtain⟨j,hj,rfl⟩:=List.getElem_of_mem hx
    have:=dQ hj;omega))
  exact aDx v om a b
def K1(n:AG):AN prog 240 [.str n] (.bool (lG n)):=by
 refine AI.plain rfl rfl (aS [2] func240 ?_)
 repeat' first|refine .s1 ?_|(refine .q ?_ ?_<;>intro O)|fail
 all_goals
  refine Fin.rb ?_;unfold lG C9 dC g7 sID;simp_all
def zK(s:AJ)(name:AG)(hs:s.size<=1048576):AN prog 159 [s.C, .str name] (.tup [(bN s name).1.C, .bool (bN s name).2]):=by
 have a:=K1 name;have h:=s.len;refine AI.plain (by simp[AV.K,aA,Ah.K]) Wn (cE [.cell 4 142, .tmp 5] func159 ?_);cases c:lG name with
 |true=>rw[c]at a;refine .ae ?_;refine aI rfl ?_;rw[bN,dW,if_pos c];exact AC.tup (AA.cons Dj (aB _))
 |false=>
  rw[c]at a;refine .ae ?_;refine bK s.ai.length (λk=>[(6, .int .i64 k),(2, .ac s.C),(1, .str name),(4, .ptr 0 0)])
   (λ_=>⟨[.cells [.int .i64 0, .str [], .slice [] .nil, .slice [] .nil, .slice [] .nil, .slice [] .nil]],[]⟩) (λk=>dW s name=(s.ai.drop k).find? (λd=>d.name==name))
   Z9 rfl Z2 λk hk hp=> ?_
  by_cases b:k<s.ai.length
  ·have g:decide ((k:Int)<(s.ai.length:Int))=true:=by simp[b]
   have x1:=aV (f:=Ah.C) b;have e:=x9 (p:=λd:Ah=>d.name==name) b
   repeat' first|refine .lb ?_|refine .s1 ?_|(refine .q ?_ ?_<;>intro O)|fail
   ·refine aI rfl (AC.eq ?_);rw[bN,hp,e,if_pos O];rfl
   ·exact⟨b,Z9,Wj,rfl,rfl,Xm⟩
  ·have g:decide ((k:Int)<(s.ai.length:Int))=false:=by simp;omega
   refine .go ?_;refine aI rfl ?_;rw[bN,hp,drop_eq_nil_of_le om];exact AC.tup (AA.cons Dj (aB _))
def Oi(l:List AP)(name:AG)(d:l.length<=68719476736):AN prog 133 [.slice (l.map AP.C) .no, .str name] (.tup [(qC l name).1.C, .bool (qC l name).2]):=by
 refine AI.plain XD (by simp[AV.K,aA,bZ]) (cE [.cell 4 136, .tmp 5] func133 ?_);refine .go ?_;refine bK l.length (λk=>[(6, .int .i64 k),(0, .slice (l.map AP.C) .no),(1, .str name),(4, .ptr 0 0)])
  (λ_=>⟨[.cells [.str [], .str [], .int .i64 0, .int .i64 0, .bool false, .int .i64 0, .int .i64 0, .str [], .slice [] .nil, .slice [] .nil]],[]⟩) (λk=>sB l name=(l.drop k).find? (λp=>p.name==name))
  Z9 rfl rfl λk hk hp=> ?_
 by_cases a:k<l.length
 ·have c:decide ((k:Int)<(l.length:Int))=true:=by simp[a]
  have x1:=aV (f:=AP.C) a;have b:=x9 (p:=λp:AP=>p.name==name) a
  repeat' first|refine .s1 ?_|(refine .q ?_ ?_<;>intro O)|fail
  ·refine aI rfl (AC.eq ?_);rw[qC,hp,b,if_pos O];rfl
  ·exact⟨a,Z9,Wj,rfl,rfl,Yz⟩
 ·have c:decide ((k:Int)<(l.length:Int))=false:=by simp;omega
  refine .go ?_;refine aI rfl ?_;rw[qC,hp,drop_eq_nil_of_le om];exact AC.tup (AA.cons zW (aB _))
def wH(name:AG)(l:List AF)(c:l.length<=9223372036854775807):AN prog 39 [.str name, .slice (l.map AF.C) .no] (.tup [(bT name l).1.C, .bool (bT name l).2]):=by
 refine AI.plain W3 W6 (cE [.cell 4 43, .tmp 5] func39 ?_);refine .go ?_;refine bK l.length (λk=>[(6, .int .i64 k),(1, .slice (l.map AF.C) .no),(0, .str name),(4, .ptr 0 0)]) (λ_=>⟨[.cells fF],[]⟩) (λk=>bT name l=bT name (l.drop k)) Z9 rfl rfl λk hk hp=> ?_
 by_cases a:k<l.length
 ·have b:decide ((k:Int)<(l.length:Int))=true:=by simp[a]
  have x1:=aV (f:=AF.C) a
  repeat' first|refine .s1 ?_|(refine .q ?_ ?_<;>intro O)|fail
  ·refine aI rfl (AC.eq ?_);rw[hp,pP a,if_pos O];rfl
  ·exact⟨a,Z9,Wj,rfl,rfl,Yn⟩
 ·have b:decide ((k:Int)<(l.length:Int))=false:=by simp;omega
  refine .go ?_;refine aI rfl ?_;rw[hp,drop_eq_nil_of_le om,bT];exact AC.tup (AA.cons cF (aB _))
end Go.Proofs.YtimbiifcnhgcoaaGreatDoor
namespace Go.Av
open Go
section
variable [AL]
variable {P:Program} {A:Array Oper} {G:Bool} {K:AX->AE->St->Prop} {C:List Oper} {I:List Aj} {s:AE} {H:St} {R:TypeId} {D:String} {S:Array Edge}
end
end Go.Av
namespace Go.Proofs.YtimbiifcnhgcoaaGreatDoor
open Go Go.Av Go.Proofs.Tryz
attribute [local irreducible] AB AD AN AI Av.AU AZ
end Go.Proofs.YtimbiifcnhgcoaaGreatDoor
namespace Go.Av
open Go
section
variable [AL]
variable {P:Program} {A:Array Oper} {G:Bool} {K:AX->AE->St->Prop} {C:List Oper} {I:List Aj} {s:AE} {H:St} {d:Option Tmp} {R:TypeId} {D:String} {S:Array Edge}
end
end Go.Av
namespace Go.Proofs.YtimbiifcnhgcoaaGreatDoor
open Go Go.Av Go.Proofs.Tryz
attribute [local irreducible] AB AD AN AI Av.AU AZ
theorem aAP(s:AJ)(n:AG)(a b:Int):eP s n [a,b,b]=eP s n [a,b]:=Zp
theorem RS(s:AJ)(n:AG)(a:Int):eP s n [a,a,a]=eP s n [a]:=Zp
def MN(s:AJ)(name:AG)(a b c:Int)(hs:s.size<=1048576):AN prog 207 [s.C, .str name, .int .i64 a, .int .i64 b, .int .i64 c] (.bool (eP s name [a,b,c])):=by
 have hf:=zK s name hs;refine AI.plain rfl Wn (aS [10] func207 ?_);unfold eP;generalize bN s name=r at *
 obtain⟨d,ok⟩:=r;dsimp only at *
 repeat' first|refine .br ?_|refine .s1 ?_|(refine .q ?_ ?_<;>intro O)|fail
 all_goals
  refine Fin.rb ?_
  first|(simp_all;done)|(simp_all;rw[Bool.eq_iff_iff];simp)
def GD(s:AJ)(name:AG)(hs:s.size<=1048576):AN prog 131 [s.C, .str name] (.bool (dT s name)):=by have h:=MN s name 0 4 4 hs;rw[aAP]at h;refine AI.plain rfl Wn (aS [4] func131 ?_);refine .ae ?_;exact bY
def EQ(s:AJ)(name:AG)(hs:s.size<=1048576):AN prog 158 [s.C, .str name] (.bool (g8 s name)):=by
 have h:=MN s name 1 2 3 hs
 skip
 refine AI.plain rfl Wn (aS [4] func158 ?_);refine .ae ?_;exact bY
def wI(s:AJ)(name:AG)(hs:s.size<=1048576):AN prog 198 [s.C, .str name] (.bool (eP s name [1])):=by have h:=MN s name 1 1 1 hs;rw[RS]at h;refine AI.plain rfl Wn (aS [4] func198 ?_);refine .ae ?_;exact bY
def Ud(s:AG)(hs:s.length<=9223372036854775807):AN prog 306 [.str s] (.bool (JU s)):=by
 refine AI.plain rfl rfl (aS [2] func306 ?_);unfold JU;by_cases h:2<=s.length
 ·have a:decide ((2:Int)<=(s.length:Int))=true:=decide_eq_true om
  repeat' first|refine .s1 ?_|(refine .q ?_ ?_<;>intro O)|refine cS 0 2 rfl rfl rfl rfl rfl rfl rfl (Nat.zero_le _) h (List.drop_zero ..) ?_|fail
  exact bY
 ·have a:decide ((2:Int)<=(s.length:Int))=false:=decide_eq_false om;refine .go ?_;refine Fin.rb ?_;rw[eq_comm,beq_eq_false_iff_ne];intro e;have:=congrArg List.length e;rw[List.length_take]at this;simp only[List.length_cons,List.length_nil]at this;omega
def Ue(l:List AG)(i:l.length<=68719476736):AN prog 262 [.slice (l.map AV.str) .no] (.bool (!OP l)):=by
 refine AI.plain rfl WY (aS [2] func262 ?_);unfold OP;refine .go ?_;refine bK l.length (λk=>[(3, .int .i64 k),(0, .slice (l.map AV.str) .no)]) (λ_=>⟨[],[]⟩) (λk=>(l.take k).Nodup) Z9 rfl Wb λk hk hp=> ?_
 by_cases a:k<l.length
 ·have e:decide ((k:Int)<(l.length:Int))=true:=by simp[a]
  have x1:=aV (f:=AV.str) a;have ht:=Qr a;refine .go ?_;refine bK k (λj=>[(4, .int .i64 j),(3, .int .i64 k),(0, .slice (l.map AV.str) .no)]) (λ_=>⟨[],[]⟩) (λj=>l[k]∉l.take j) Z9 rfl Wb λj hj d=> ?_
  by_cases b:j<k
  ·have g:decide ((j:Int)<(k:Int))=true:=by simp[b]
   have h3:j<l.length:=om
   have m:=aV (f:=AV.str) h3;by_cases c:l[k]=l[j]
   ·have q:(l[k]==l[j])=true:=by simp[c]
    have hno:¬l.Nodup:=λhn=>by have h4:=(hn.sublist (List.take_sublist (k+1) l));rw[ht]at h4;exact h4.2 (c▸List.mem_take_iff_getElem.2 ⟨j,om,rfl⟩)
    rw[decide_eq_false hno];refine .go ?_;exact bY
   ·have q:(l[k]==l[j])=false:=by simp[c]
    refine .go ?_;exact⟨b,Z9,Wj,rfl,rfl,by rw[List.take_succ_eq_append_getElem h3,List.mem_append,List.mem_singleton];exact λh=>h.elim d c⟩
  ·have g:decide ((j:Int)<(k:Int))=false:=by simp;omega
   obtain rfl:j=k:=om
   refine .go ?_;exact⟨a,Z9,Wj,rfl,rfl,ht.2 ⟨hp,d⟩⟩
 ·have e:decide ((k:Int)<(l.length:Int))=false:=by simp;omega
  obtain rfl:k=l.length:=om
  rw[List.take_length]at hp;rw[decide_eq_true hp];refine .go ?_;exact bY
def aC2(l:List AG)(e:dB l<=68719476736):AN prog 259 [.slice (l.map AV.str) .no] (.bool (sJ l)):=by
 have b:l.length<=68719476736:=by have:=aJ (size:=λs:AG=>s.length+1) (λ_=>om) l;unfold dB at e;omega
 have ht:=Ue l b;refine AI.plain rfl WY (aS [2] func259 ?_);unfold sJ Lx;refine .go ?_;refine bK l.length (λk=>[(3, .int .i64 k),(0, .slice (l.map AV.str) .no)]) (λ_=>⟨[],[]⟩) (λk=>(l.take k).any JU=false) Z9 rfl Wb λk hk hp=> ?_
 by_cases a:k<l.length
 ·have g:decide ((k:Int)<(l.length:Int))=true:=by simp[a]
  have x1:=aV (f:=AV.str) a;have X:=Ud l[k] (by have:=aN (size:=λs:AG=>s.length+1) (getElem_mem a);unfold dB at e;omega);have d:(l.take (k+1)).any JU=((l.take k).any JU||JU l[k]):=by rw[List.take_succ_eq_append_getElem a,List.any_append];simp
  cases c:JU l[k]<;>rw[c]at X
  ·refine .go ?_;exact⟨a,Z9,Wj,rfl,rfl,by rw[d,hp,c];rfl⟩
  ·have ha:l.any JU=true:=List.any_eq_true.2 ⟨_,getElem_mem a,c⟩;rw[ha,Bool.not_true,Bool.and_false];refine .go ?_;exact bY
 ·have g:decide ((k:Int)<(l.length:Int))=false:=by simp;omega
  obtain rfl:k=l.length:=om
  rw[List.take_length]at hp;rw[hp,Bool.not_false,Bool.and_true];refine .go ?_;refine Fin.rb ?_;exact Bool.not_not _
def MO(s:AJ)(hs:s.size<=1048576):AN prog 257 [s.C] (.slice ((s.ai.map Ah.name).map AV.str) .no):=by
 have d:=s.len;refine AI.plain (by simp[AV.K,aT, -List.map_map]) Wn (aS [2] func257 ?_)
 repeat' first|refine .br ?_|refine .s1 ?_|(refine .q ?_ ?_<;>intro O)|fail
 refine eX 3 false 1 rfl rfl rfl rfl rfl rfl ?_;refine bK s.ai.length (λk=>[(4, .int .i64 k),(1, .ac s.C),(3, .slice (((s.ai.take k).map Ah.name).map AV.str) (.own 0 1))]) (λk=>⟨[],[.len k]⟩) (λ_=>True) Z9 rfl trivial λk hk _=> ?_
 have b:(((s.ai.take k).map Ah.name).map AV.str).length=k:=Wl
 by_cases a:k<s.ai.length
 ·have c:decide ((k:Int)<(s.ai.length:Int))=true:=by simp[a]
  have x1:=aV (f:=Ah.C) a
  repeat' first|refine .s1 ?_|(refine .q ?_ ?_<;>intro O)|refine bW (n:=k) rfl rfl rfl rfl rfl rfl rfl rfl b rfl Wa Wa rfl ?_|fail
  exact⟨a,⟨rfl,rfl,by rw[List.take_succ_eq_append_getElem a,List.map_append,List.map_append];rfl,trivial⟩,by simp[-List.map_take, -List.map_map,aM,AV.ab,aF,AJ.K],WO,rfl,trivial⟩
 ·have c:decide ((k:Int)<(s.ai.length:Int))=false:=by simp;omega
  obtain rfl:k=s.ai.length:=om
  rw[List.take_length];refine .go ?_;exact aP rfl (AC.no (aB _))
theorem In{a n:Nat}(y:AV):∀xs:List AV,aE a n (xs++[y])=(aE a n xs&&y.ab a n)
 |[]=>by simp[aE]
 |x::xs=>by rw[List.cons_append,aE,aE,In y xs,Bool.and_assoc]
theorem Io{Q N:Nat->Nat}(y:AV):∀xs:List AV,aX Q N (xs++[y])=aX Q N xs++[y.af Q N]
 |[]=>by simp[aX]
 |x::xs=>by rw[List.cons_append,aX,aX,Io y xs];rfl
section
variable [AL]
variable {P:Program} {A:Array Oper} {G:Bool} {K:AX->AE->St->Prop} {C:List Oper} {I:List Aj} {s:AE} {H:St} {d:Option Tmp} {R:TypeId} {D:String} {S:Array Edge}
def GE{f:FuncId}{args:Array Operand}{p:Array TypeId}{xs ys cls cls': List AV}{z n g:Nat}{T': List Tok}(j:Nat)(ha:jZ s args.toList some=some (cls++[.slice xs (.own j z)]))
  (hp:AI P f (cls'++ [.slice xs (.own 0 z)]) ⟨[],[.len n]⟩ (λe l=>e = .ret (.slice ys (.own 0 z))/\l=⟨[],[.len g]⟩)) (hj:H.T[j]? =some (.len n)) (hx:aA xs=true) (o:aA ys=true) (O:aA cls'= true) (hw:AA (cls++[.slice xs (.own j z)]) (cls'++ [.slice xs (.own j z)]))
  (a:jX j (.len g) H.T some=some T') (k:AD P A G K C (.all::I) (iG d (.slice ys (.own j z)) s) ⟨H.B,T'⟩):AD P A G K (⟨d, .call ⟨.value (.func f),args,p⟩,R,D,S,none⟩::C) I s H:=by
 have c:j<H.T.length:=(List.getElem?_eq_some_iff.1 hj).1;have m:emb H.T.length [j] 0=j:=rfl;refine lS (nB:=H.B.length) (nT:=H.T.length) (B0:=[]) (T0:=[.len n]) (B1:=[]) (T1:=[.len g]) (v0 := .slice ys (.own 0 z)) [] [j] ha hp rfl rfl ⟨List.nodup_nil,Wb⟩ ⟨Wb,WA⟩ rfl rfl (λk i ob h=>Wp) (λk i t h ht=> ?_) rfl rfl
  ?_ ?_ ?_ (B':= H.B) (T':= T') ?_ ?_ k
 ·cases k with
  |zero=>simp at h ht;subst h;subst ht;exact hj
  |succ k=>simp at h
 ·rw[In,aD _ _ _ O,AV.ab,aD _ _ _ hx];rfl
 ·rw[Io,aU _ _ _ O,AV.af,aU _ _ _ hx];exact hw
 ·rw[AV.af,aU _ _ _ o];rfl
 ·rw[pN];simp
 ·obtain⟨_,b⟩:=d7 _ _ _ _ _ a;rw[<-Option.some.inj b];simp[eZ,upd,Tok.af]
end
def MP(s:AJ)(name:AG)(hs:s.size<=1048576):AN prog 158 [s.C, .str name] (.bool (g8 s name)):=by have a:=MN s name 1 2 3 hs;refine pEn 4 func158 ?_;exact .wc
def aC3(t:Ac)(ht:t.name.length<=68719476736):AN prog 281 [t.C] (Lg t).C:=by
 have hr:=kT t om;refine AI.plain rfl rfl (cE [.cell 2 84] func281 ?_);unfold Lg;cases c:cG t with
 |true=>
  rw[c]at hr;obtain⟨_,d,e,a,f⟩:=fR.1 c;have b:=GZ c;rw[if_pos rfl]
  repeat' first|refine .s1 ?_|(refine .q ?_ ?_<;>intro O)|refine Sa rfl rfl (aES a b) ?_|fail
  exact aO
 |false=>rw[c]at hr;rw[if_neg Wd];refine .go ?_;exact aO
end Go.Proofs.YtimbiifcnhgcoaaGreatDoor
