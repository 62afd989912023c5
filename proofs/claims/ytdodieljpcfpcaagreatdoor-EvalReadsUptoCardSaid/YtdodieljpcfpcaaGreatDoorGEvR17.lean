/- Joined texts. -/
import Derived.Lib.ParseIntBCases
import Derived.Test.YtdodieljpcfpcaaGreatDoorGEvR15
set_option maxRecDepth 100000
set_option maxHeartbeats 16000000
set_option linter.all false
open List (drop_eq_nil_of_le getElem_mem length_map length_take map_append map_map take_length)
open Nat (le_refl zero_le)
open Go Go.Av Go.Proofs.YtdodieljpcfpcaaGreatDoor Go.Proofs.Tryz
variable{α:Type}{l:AF}{k:Nat}
namespace Go.Proofs.YtdodieljpcfpcaaGreatDoor
open Go Go.Av Go.Proofs.Tryz
attribute [local irreducible] AB AD AN AQ Av.AS AZ
def dOf(c:UInt8):Nat:=(c.toNat+208) % 256
def Cw(c:UInt8):Int:=Int.tdiv (-9223372036854775808+(dOf c:Int)) 10
def oX:Int->AF->Option Int
 |n,[]=>some n
 |n,c::r=>if n<Cw c then none else oX (10 * n-dOf c) r
def Gn(s:AF):Bool:=s.head? ==some 45
def Cx(s:AF):Bool:=match oX 0 (if Gn s=true then s.drop 1 else s) with
 |none=>false
 |some n=>Gn s||n != -9223372036854775808
def MA{s:AF}{n:Int}(h:k<s.length):oX n (s.drop k)=if n<Cw s[k] then none else oX (10 * n-dOf s[k]) (s.drop (k+1)):=by rw[List.drop_eq_getElem_cons h,oX]
def MB(c:UInt8):dOf c<256:=Nat.mod_lt _ Wc
def N3(c:UInt8)(n:Int):n<Cw c↔10 * n < -9223372036854775808+(dOf c:Int):=by have a:=MB c;unfold Cw;grind
def V5(c:UInt8) : -9223372036854775808<=Cw c/\Cw c<=0:=by have a:=MB c;unfold Cw;grind
def Rz(c:UInt8):IntKind.i64.wrap (Int.tdiv (-9223372036854775808+(dOf c:Int)) 10)=Cw c:=IntWalk.i64_in _ (by have:=V5 c;unfold Cw at this;omega)
def RA(c:UInt8):IntKind.i64.wrap (IntKind.u8.wrap ((c.toNat:Int)-48))=(dOf c:Int):=by
 have:∀c:Fin 256,IntKind.i64.wrap (IntKind.u8.wrap ((c.val:Int)-48))=(((c.val+208) % 256:Nat):Int):=WQ
 exact this ⟨c.toNat,UInt8.toNat_lt c⟩
attribute [local irreducible] Int.decLt Int.decLe Int.le Int.lt Cw in
def Gp(s:AF)(hs:s.length<=1048576):AN prog 234 [.str s] (.tup [.undef, .bool (Cx s)]):=by
 refine AQ.plain rfl rfl (cK [2,3] func234 ?_);have d:∀(f:Nat) (g:Bool),f<=s.length->Gn s=g->(if Gn s=true then s.drop 1 else s)=s.drop f->
   AB prog Tryz.f234.ntmps [] (wS 4 (uB Tryz.f234)) (fin [2,3] (λe _=>∃v,e = .ret v/\AC v (.tup [.undef, .bool (Cx s)])))
    [(0, .str s),(4, .int .i64 (f:Int)),(5, .bool g),(6, .int .i64 0)] ⟨[],[]⟩:=λf g t a i=>by
  have b:Cx s=match oX 0 (s.drop f) with
   |none=>false
   |some n=>g||n != -9223372036854775808:=by unfold Cx;rw[i,a]
  refine .go ?_;change AB _ _ _ _ _ _ _;refine AB.loop (λm p H=>∃(k:Nat) (n:Int),m=s.length-k/\k<=s.length /\ -9223372036854775808<=n/\n<=0/\oX 0 (s.drop f)=oX n (s.drop k)/\H=⟨[],[]⟩/\
   p=[(4, .int .i64 (k:Int)),(6, .int .i64 n),(0, .str s),(5, .bool g)])
   (s0:=[(4, .int .i64 (f:Int)),(6, .int .i64 0),(0, .str s),(5, .bool g)]) Z0 ⟨f,0,rfl,t,om,om,rfl,rfl,rfl⟩ ?_
  rintro m p H ⟨k,n,rfl,hk,hn1,hn2,hp,rfl,rfl⟩;by_cases h1:k<s.length
  ·have x:decide ((k:Int)<(s.length:Int))=true:=decide_eq_true om;have x1:=gC h1;have u:=MA (n:=n) h1;have hl:=N3 s[k] n;have a0:=MB s[k];have hw:=Rz s[k];by_cases c:n<Cw s[k]
   ·have y:decide (n<Cw s[k])=true:=decide_eq_true c;repeat' first|refine .s1 ?_|(refine .q ?_ ?_<;>intro O)|refine .is ?_|refine QD rfl rfl ?_|refine gE rfl rfl rfl rfl (RA _) ?_|refine ND rfl rfl Wc hw ?_|fail
    refine cI (AC.tup (AA.cons (AC.undef _) (AA.cons (AC.eq (congrArg AV.bool ?_)) (aD _))));rw[b,hp,u,if_pos c]
   ·have y:decide (n<Cw s[k])=false:=decide_eq_false c;have z : -9223372036854775808+(dOf s[k]:Int)<=10 * n:=by have:=mt hl.2 c;omega
    repeat' first|refine .s1 ?_|(refine .q ?_ ?_<;>intro O)|refine .is ?_|refine tF (hr:=rfl) ?_|refine QD rfl rfl ?_|refine gE rfl rfl rfl rfl (RA _) ?_|refine ND rfl rfl Wc hw ?_|refine NE rfl rfl rfl om ?_|fail
    refine⟨s.length-(k+1),om,[(4, .int .i64 ((k+1:Nat):Int)),(6, .int .i64 (10 * n-(dOf s[k]:Int))),(0, .str s),(5, .bool g)],Z0,Wg,rfl,k+1,10 * n-(dOf s[k]:Int),rfl,om,om,om,by rw[hp,u,if_neg c],rfl,rfl⟩
  ·have x:decide ((k:Int)<(s.length:Int))=false:=decide_eq_false om;have l:oX 0 (s.drop f)=some n:=by rw[hp,drop_eq_nil_of_le om,oX]
   rw[l]at b;cases w:g with
   |true=>subst w;refine .go ?_;refine cI (AC.tup (AA.cons (AC.undef _) (AA.cons (AC.eq (congrArg AV.bool ?_)) (aD _))));rw[b];rfl
   |false=>
    subst w;simp only[Bool.false_or]at b;by_cases c:n = -9223372036854775808
    ·have e1:(n == -9223372036854775808)=true:=E9 c;refine .go ?_;refine cI (AC.tup (AA.cons (AC.undef _) (AA.cons (AC.eq (congrArg AV.bool ?_)) (aD _))));rw[b,c];rfl
    ·have e1:(n == -9223372036854775808)=false:=iK c;repeat' first|refine .s1 ?_|(refine .q ?_ ?_<;>intro O)|refine Vb rfl (IntWalk.i64_in _ om) ?_|fail
     refine cI (AC.tup (AA.cons (AC.undef _) (AA.cons (AC.eq (congrArg AV.bool ?_)) (aD _))));rw[b,bne,e1];rfl
 by_cases h0:s=[]
 ·have hl:=d 0 false om X9 X9;subst h0;repeat' first|(refine AB.weaken hl ?_;exact Z0)|refine .s1 ?_|(refine .q ?_ ?_<;>intro O)|fail
 ·have e0:=bnT h0;have o:0<s.length:=List.length_pos_iff.2 h0;have x0:=gC o;have hh:s.head? =some s[0]:=by cases s with
   |nil=>exact absurd rfl h0
   |cons c r=>rfl
  by_cases q:s[0]=45
  ·have e1:((s[0].toNat:Int)==45)=true:=by rw[q];rfl
   have a:Gn s=true:=by unfold Gn;rw[hh,q];rfl
   have hl:=d 1 true om a (by rw[if_pos a]);repeat' first|(refine AB.weaken hl ?_;exact Z0)|refine .s1 ?_|(refine .q ?_ ?_<;>intro O)|refine bJ (j:=0) ?_|fail
  ·have e1:((s[0].toNat:Int)==45)=false:=iK (λh=>q (UInt8.toNat_inj.1 (by
    have:s[0].toNat=45:=om
    rw[this];rfl)))
   have a:Gn s=false:=by unfold Gn;rw[hh];simpa using q
   have hl:=d 0 false om a (by rw[if_neg (by rw[a];decide)];rfl);repeat' first|(refine AB.weaken hl ?_;exact Z0)|refine .s1 ?_|(refine .q ?_ ?_<;>intro O)|refine bJ (j:=0) ?_|fail
section
def KR:∀l:AF,eG l=l.length->∀c∈l,o8 c=true
 |[],_,c,h=>by simp at h
 |x::l,h,c,O=>by
  rw[eG]at h;by_cases e:o8 x=true
  ·rw[if_pos e]at h;have a:eG l=l.length:=by simpa using h
   rcases List.mem_cons.1 O with rfl|O
   ·exact e
   ·exact KR l a c O
  ·simp_all
def PD{s:AF}(h:m6 s=3):bQ s=s.length/\bQ s≠0:=by
 unfold m6 at h;by_cases c:(zN s).1=s.length
 ·rw[if_pos c]at h;rw[Jt]at c h;by_cases w:bQ s=0
  ·simp_all
  ·rw[if_neg w]at c h;refine⟨?_,w⟩;unfold KP at c h;split at c
   ·rename_i hp;rw[if_pos hp]at h;unfold C6 at c h;grind
   ·simp_all
 ·omega
def Cy{s:AF}{n:Nat}(h:iF s n=s.length)(h0:s.length≠0):s.drop n≠[]/\∀c∈s.drop n,o8 c=true:=by
 unfold iF at h;split at h
 ·omega
 ·rename_i d;have b:=jA (s.drop n);refine⟨λe=> ?_, ?_⟩
  ·simp_all
  ·split at h
   ·rename_i hz;have hn:n<s.length:=om
    have e1:s.drop n=[s[n]]:=by rw[List.drop_eq_getElem_cons hn,drop_eq_nil_of_le om]
    have a:s[n]=48:=by rw[gC hn]at hz;exact Option.some.inj hz
    rw[e1,a];intro c O;simp at O;subst O;decide
   ·exact KR _ W6
def vD(I:Nat)(l:AF):Nat:=l.foldl (λa c=>a * 10+(c.toNat-48)) I
theorem Gq(I:Nat):vD I []=I:=rfl
theorem DN(I:Nat)(c:UInt8)(r:AF):vD I (c::r)=vD (I * 10+(c.toNat-48)) r:=by unfold vD;rw[List.foldl_cons]
def N4(l:AF)(I:Nat):I<=vD I l:=by
 induction l generalizing I with
 |nil=>rw[Gq];exact le_refl _
 |cons c r E=>have:=E (I * 10+(c.toNat-48));rw[DN];omega
def Gr{c:UInt8}:o8 c=true↔48<=c.toNat/\c.toNat<=57:=by simp[o8]
def TX{c:UInt8}(h:o8 c=true):dOf c=c.toNat-48:=by have:=Gr.1 h;unfold dOf;omega
theorem tY:∀(l:AF) (I:Nat),(∀c∈l,o8 c=true)->I<=9223372036854775808->oX (-(I:Int)) l=if vD I l<=9223372036854775808 then some (-(vD I l:Int)) else none
 |[],I,_,ha=>by rw[oX,Gq,if_pos ha]
 |c::r,I,h,ha=>by
  have O:=h c Wa;have a:=TX O;have hl:=N3 c (-(I:Int));have b:=N4 r (I * 10+(c.toNat-48));rw[oX,DN];by_cases k : -(I:Int)<Cw c
  ·grind
  ·rw[if_neg k];have e:10 * -(I:Int)-(dOf c:Int) = -((I * 10+(c.toNat-48):Nat):Int):=om
   rw[e,tY r _ (λx Y=>h x (List.mem_cons_of_mem _ Y)) om]
theorem yQ:∀(l:AF) (I:Nat),(∀c∈l,o8 c=true)->I<=18446744073709551615->Lib.parseUintM 18446744073709551615 I l=if vD I l<=18446744073709551615 then .ok (vD I l) else .range
 |[],I,_,ha=>by rw[Lib.parseUintM,Gq,if_pos ha]
 |c::r,I,h,ha=>by
  have O:=Gr.1 (h c Wa);have b:=N4 r (I * 10+(c.toNat-48));rw[Lib.parseUintM,DN,if_pos O];by_cases k:1844674407370955162<=I
  ·grind
  ·rw[if_neg k];by_cases a:18446744073709551615<I * 10+(c.toNat-48)
   ·grind
   ·rw[if_neg a,yQ r _ (λx Y=>h x (List.mem_cons_of_mem _ Y)) om]
theorem yR(a:l≠[])(h:∀c∈l,o8 c=true):Lib.parseUintB 64 l=if vD 0 l<=18446744073709551615 then .ok (vD 0 l) else .range:=by rw[Lib.parseUintB,if_neg a];exact yQ l 0 h om
theorem V6{s:AF}(h:m6 s=3):Cx s=C5 s:=by
 obtain⟨hw,h0⟩:=PD h;cases s with
 |nil=>simp at hw;exact absurd hw h0
 |cons c r=>
  rw[bQ,KQ]at hw;by_cases q:c=45
  ·subst q;obtain⟨f,i⟩:=Cy hw Wa;have b:r≠[]:=f;have a:∀x∈r,o8 x=true:=i;have e:Gn (45::r)=true:=rfl;have hf:=tY r 0 a om;have d:oX 0 r=if vD 0 r<=9223372036854775808 then some (-(vD 0 r:Int)) else none:=hf
   unfold Cx C5;rw[e,if_pos rfl,Lib.parseIntB_minus,yR b a];show (match oX 0 r with|none=>false|some n=>true||n != -9223372036854775808)=_;rw[d];by_cases k:vD 0 r<=9223372036854775808
   ·rw[if_pos k,if_pos om];unfold Lib.signedC;grind
   ·rw[if_neg k];by_cases g:vD 0 r<=18446744073709551615
    ·rw[if_pos g];unfold Lib.signedC;simp_all
    ·rw[if_neg g];rfl
  ·have l:=beF q;rw[l,if_neg Wc]at hw;obtain⟨f,i⟩:=Cy hw Wa;have b:(c::r)≠[]:=by simp
   have a:∀x∈(c::r),o8 x=true:=i;have O:=Gr.1 (a c Wa);have e:Gn (c::r)=false:=by unfold Gn;simpa using q
   have hf:=tY (c::r) 0 a om;have d:oX 0 (c::r)=if vD 0 (c::r)<=9223372036854775808 then some (-(vD 0 (c::r):Int)) else none:=hf
   unfold Cx C5;rw[e,if_neg Wc,Lib.parseIntB_plain 64 c r om om,yR b a,d];generalize vD 0 (c::r)=V;by_cases k:V<=9223372036854775808
   ·rw[if_pos k,if_pos om];unfold Lib.signlessC;simp only[Nat.reduceSub,Nat.reducePow];by_cases j:9223372036854775808<=V
    ·rw[if_pos j];have:(V:Int)=9223372036854775808:=om
     rw[this];rfl
    ·rw[if_neg j];simp;omega
   ·rw[if_neg k];by_cases g:V<=18446744073709551615
    ·rw[if_pos g];unfold Lib.signlessC;simp only[Nat.reduceSub,Nat.reducePow];rw[if_pos om]
    ·rw[if_neg g];rfl
def PE(s:AF):m6 s=0\/m6 s=3\/m6 s=4:=by grind[m6,Jt,KP,C6]
theorem TY:m6 []=0:=rfl
theorem TZ(s:AF):RY s=if s=[]\/m6 s=0 then false else (m6 s==4 || !Cx s):=by
 unfold RY;by_cases h0:s=[]
 ·subst h0;rw[if_pos (.inl rfl),TY];rfl
 ·rcases PE s with h|h|h
  ·simp_all
  ·rw[if_neg (λe=>e.elim h0 (λa=>om)),V6 h,h];simp
  ·simp_all
end
def aD6(v:AH)(hv:v.size<=1048576)(k:v.kind=0)(b:decide ((0:Int)<(v.lv.length:Int)) = !decide (v.l.length=0))(c:decide ((0:Int)<(v.mv.length:Int)) = !decide (v.m.length=0)):AN prog 158 [v.C] (.bool (g7 fT v)):=by
 have a:=v.ax;have d:(v.kind==0)=true:=We
 have e:(v.kind==2)=false:=We
 have f:(v.kind==3)=false:=We
 have g:(v.kind==4)=false:=We
 have h:(v.kind==5)=false:=We
 have i:(v.kind==6)=false:=We
 have j:(v.kind==7)=false:=We
 have n:(v.kind==8)=false:=We
 have o:(v.kind != 1)=true:=We
 have p:(v.kind != 2)=true:=We
 have r:(v.kind != 6)=true:=We
 have t:(v.kind != 7)=true:=We
 refine pEn 2 func158 ?_;rw[lM,if_neg om,if_neg om];unfold lL;rw[if_pos k];repeat' first|refine .br ?_|refine .s1 ?_|(refine .q ?_ ?_<;>intro O)|fail
 all_goals
  refine Fin.rb ?_;first|(simp_all;done)|(simp_all[bne];done)
def aD7(v:AH)(hv:v.size<=1048576)(k:v.kind=1)(b:decide ((0:Int)<(v.lv.length:Int)) = !decide (v.l.length=0))(c:decide ((0:Int)<(v.mv.length:Int)) = !decide (v.m.length=0)):AN prog 158 [v.C] (.bool (g7 fT v)):=by
 have a:=v.ax;have d:(v.kind==1)=true:=We
 have e:(v.kind==2)=false:=We
 have f:(v.kind==3)=false:=We
 have g:(v.kind==4)=false:=We
 have h:(v.kind==5)=false:=We
 have i:(v.kind==6)=false:=We
 have j:(v.kind==7)=false:=We
 have n:(v.kind==8)=false:=We
 have o:(v.kind != 1)=false:=We
 have p:(v.kind != 2)=true:=We
 have r:(v.kind != 6)=true:=We
 have t:(v.kind != 7)=true:=We
 refine pEn 2 func158 ?_;rw[lM,if_neg om,if_neg om];unfold lL;rw[if_neg (show ¬v.kind=0 by omega)];rw[if_pos k];repeat' first|refine .br ?_|refine .s1 ?_|(refine .q ?_ ?_<;>intro O)|fail
 all_goals
  refine Fin.rb ?_;first|(simp_all;done)|(simp_all[bne];done)
def aD8(v:AH)(hv:v.size<=1048576)(k:v.kind=2)(b:decide ((0:Int)<(v.lv.length:Int)) = !decide (v.l.length=0))(c:decide ((0:Int)<(v.mv.length:Int)) = !decide (v.m.length=0)):AN prog 158 [v.C] (.bool (g7 fT v)):=by
 have a:=v.ax;have d:(v.kind==2)=true:=We
 have e:(v.kind==3)=false:=We
 have f:(v.kind==4)=false:=We
 have g:(v.kind==5)=false:=We
 have h:(v.kind==6)=false:=We
 have i:(v.kind==7)=false:=We
 have j:(v.kind==8)=false:=We
 have n:(v.kind != 1)=true:=We
 have o:(v.kind != 2)=false:=We
 have p:(v.kind != 6)=true:=We
 have r:(v.kind != 7)=true:=We
 refine pEn 2 func158 ?_;rw[lM,if_neg om,if_neg om];unfold lL;rw[if_neg (show ¬v.kind=0 by omega)];rw[if_neg (show ¬v.kind=1 by omega)];rw[if_pos k];repeat' first|refine .br ?_|refine .s1 ?_|(refine .q ?_ ?_<;>intro O)|fail
 all_goals
  refine Fin.rb ?_;first|(simp_all;done)|(simp_all[bne];done)
def aD9(v:AH)(hv:v.size<=1048576)(k:v.kind=3)(b:decide ((0:Int)<(v.lv.length:Int)) = !decide (v.l.length=0))(c:decide ((0:Int)<(v.mv.length:Int)) = !decide (v.m.length=0)):AN prog 158 [v.C] (.bool (g7 fT v)):=by
 have a:=v.ax;have e:=Ia v.s om;have f:=Cs v.s om;have d:=Cv v.s om;have g:=Gp v.s om;have h:(v.kind==0)=false:=We
 have i:(v.kind==1)=false:=We
 have j:(v.kind==2)=false:=We
 have n:(v.kind==3)=true:=We
 have o:(v.kind==4)=false:=We
 have p:(v.kind==5)=false:=We
 have r:(v.kind==6)=false:=We
 have t:(v.kind==7)=false:=We
 have u:(v.kind==8)=false:=We
 have w:(v.kind != 1)=true:=We
 have x:(v.kind != 2)=true:=We
 have y:(v.kind != 6)=true:=We
 have z:(v.kind != 7)=true:=We
 refine pEn 2 func158 ?_;rw[lM,if_neg om,if_neg om];unfold lL;rw[if_neg (show ¬v.kind=0 by omega)];rw[if_neg (show ¬v.kind=1 by omega)];rw[if_neg (show ¬v.kind=2 by omega)];rw[if_pos k];rw[TZ]
 repeat' first|refine .br ?_|refine .s1 ?_|(refine .q ?_ ?_<;>intro O)|fail
 all_goals
  refine Fin.rb ?_
  first|(simp_all;done)|(simp_all[bne];done)
def aDa(v:AH)(hv:v.size<=1048576)(k:v.kind=4)(b:decide ((0:Int)<(v.lv.length:Int)) = !decide (v.l.length=0))(c:decide ((0:Int)<(v.mv.length:Int)) = !decide (v.m.length=0)):AN prog 158 [v.C] (.bool (g7 fT v)):=by
 have a:=v.ax;have e:=Ia v.s om;have f:=Cs v.s om;have d:=Cv v.s om;have g:=Gp v.s om;have h:(v.kind==0)=false:=We
 have i:(v.kind==1)=false:=We
 have j:(v.kind==2)=false:=We
 have n:(v.kind==3)=false:=We
 have o:(v.kind==4)=true:=We
 have p:(v.kind==5)=false:=We
 have r:(v.kind==6)=false:=We
 have t:(v.kind==7)=false:=We
 have u:(v.kind==8)=false:=We
 have w:(v.kind != 1)=true:=We
 have x:(v.kind != 2)=true:=We
 have y:(v.kind != 6)=true:=We
 have z:(v.kind != 7)=true:=We
 refine pEn 2 func158 ?_;rw[lM,if_neg om,if_neg om];unfold lL;rw[if_neg (show ¬v.kind=0 by omega)];rw[if_neg (show ¬v.kind=1 by omega)];rw[if_neg (show ¬v.kind=2 by omega)];rw[if_neg (show ¬v.kind=3 by omega)];rw[if_pos k]
 repeat' first|refine .br ?_|refine .s1 ?_|(refine .q ?_ ?_<;>intro O)|fail
 all_goals
  refine Fin.rb ?_
  first|(simp_all;done)|(simp_all[bne];done)
def aDb(v:AH)(hv:v.size<=1048576)(k:v.kind=5)(b:decide ((0:Int)<(v.lv.length:Int)) = !decide (v.l.length=0))(c:decide ((0:Int)<(v.mv.length:Int)) = !decide (v.m.length=0)):AN prog 158 [v.C] (.bool (g7 fT v)):=by
 have a:=v.ax;have e:=Ia v.s om;have f:=Cs v.s om;have d:=Cv v.s om;have g:=Gp v.s om;have h:(v.kind==0)=false:=We
 have i:(v.kind==1)=false:=We
 have j:(v.kind==2)=false:=We
 have n:(v.kind==3)=false:=We
 have o:(v.kind==4)=false:=We
 have p:(v.kind==5)=true:=We
 have r:(v.kind==6)=false:=We
 have t:(v.kind==7)=false:=We
 have u:(v.kind==8)=false:=We
 have w:(v.kind != 1)=true:=We
 have x:(v.kind != 2)=true:=We
 have y:(v.kind != 6)=true:=We
 have z:(v.kind != 7)=true:=We
 refine pEn 2 func158 ?_;rw[lM,if_neg om,if_neg om];unfold lL;rw[if_neg (show ¬v.kind=0 by omega)];rw[if_neg (show ¬v.kind=1 by omega)];rw[if_neg (show ¬v.kind=2 by omega)];rw[if_neg (show ¬v.kind=3 by omega)];rw[if_neg (show ¬v.kind=4 by omega)];rw[if_pos k];unfold Uf
 repeat' first|refine .br ?_|refine .s1 ?_|(refine .q ?_ ?_<;>intro O)|fail
 all_goals
  refine Fin.rb ?_
  first|(simp_all;done)|(simp_all[bne];done)
def aDc(v:AH)(hv:v.size<=1048576)(k:v.kind=8)(b:decide ((0:Int)<(v.lv.length:Int)) = !decide (v.l.length=0))(c:decide ((0:Int)<(v.mv.length:Int)) = !decide (v.m.length=0)):AN prog 158 [v.C] (.bool (g7 fT v)):=by
 have a:=v.ax;have e:=Ia v.s om;have f:=Cs v.s om;have d:=Cv v.s om;have g:=Gp v.s om;have h:(v.kind==0)=false:=We
 have i:(v.kind==1)=false:=We
 have j:(v.kind==2)=false:=We
 have n:(v.kind==3)=false:=We
 have o:(v.kind==4)=false:=We
 have p:(v.kind==5)=false:=We
 have r:(v.kind==6)=false:=We
 have t:(v.kind==7)=false:=We
 have u:(v.kind==8)=true:=We
 have w:(v.kind != 1)=true:=We
 have x:(v.kind != 2)=true:=We
 have y:(v.kind != 6)=true:=We
 have z:(v.kind != 7)=true:=We
 refine pEn 2 func158 ?_;rw[lM,if_neg om,if_neg om];unfold lL;rw[if_neg (show ¬v.kind=0 by omega)];rw[if_neg (show ¬v.kind=1 by omega)];rw[if_neg (show ¬v.kind=2 by omega)];rw[if_neg (show ¬v.kind=3 by omega)];rw[if_neg (show ¬v.kind=4 by omega)];rw[if_neg (show ¬v.kind=5 by omega)];rw[if_pos k]
 repeat' first|refine .br ?_|refine .s1 ?_|(refine .q ?_ ?_<;>intro O)|fail
 all_goals
  refine Fin.rb ?_
  first|(simp_all;done)|(simp_all[bne];done)
def aDd(v:AH)(k:¬(v.kind=0\/v.kind=1\/v.kind=2\/v.kind=3\/v.kind=4\/v.kind=5\/v.kind=6\/v.kind=7\/v.kind=8))(j:decide ((0:Int)<(v.lv.length:Int)) = !decide (v.l.length=0))(n:decide ((0:Int)<(v.mv.length:Int)) = !decide (v.m.length=0)):AN prog 158 [v.C] (.bool (g7 fT v)):=by
 simp only[not_or]at k;obtain⟨e,a,b,f,g,h,c,d,i⟩:=k;have o:=iK e;have p:=iK a;have r:=iK b;have t:=iK f;have u:=iK g;have w:=iK h;have x:=iK c;have y:=iK d;have z:=iK i;have w1:=bnT a;have w2:=bnT b;have w6:=bnT c;have w7:=bnT d;refine pEn 2 func158 ?_;rw[lM,if_neg c,if_neg d];unfold lL;rw[if_neg e,if_neg a,if_neg b,if_neg f,if_neg g,if_neg h,if_neg i,Bool.and_false]
 repeat' first|refine .br ?_|refine .s1 ?_|(refine .q ?_ ?_<;>intro O)|fail
 all_goals exact bW
def aDe(v:AH)(hv:v.size<=1048576)(k:v.kind=6)(r:decide ((0:Int)<(v.lv.length:Int)) = !decide (v.l.length=0))(d:decide ((0:Int)<(v.mv.length:Int)) = !decide (v.m.length=0))(E:∀x∈v.l,AN prog 158 [x.C] (.bool (g7 fT x))):AN prog 158 [v.C] (.bool (g7 fT v)):=by
 have p:=v.ax;have i:=v.bu;have o:=v.b3;have t:(v.kind==0)=false:=We
 have u:(v.kind==1)=false:=We
 have w:(v.kind==2)=false:=We
 have y:(v.kind==3)=false:=We
 have z:(v.kind==4)=false:=We
 have u5:(v.kind==5)=false:=We
 have u6:(v.kind==6)=true:=We
 have u7:(v.kind==7)=false:=We
 have u8:(v.kind==8)=false:=We
 have w1:(v.kind != 1)=true:=We
 have w2:(v.kind != 2)=true:=We
 have w6:(v.kind != 6)=false:=We
 have w7:(v.kind != 7)=true:=We
 refine pEn 2 func158 ?_;rw[lM,if_pos k];by_cases c:v.n=0
 ·have en:=bnF c;by_cases b:v.m.length=0
  ·have g:decide ((0:Int)<(v.mv.length:Int))=false:=by rw[d];simp[b]
   by_cases cs:v.s=[]
   ·have es:=bnF cs;have a:(yM fT v.l&&(v.n==0&&v.s==[]&&decide (v.m.length=0)))=yM fT v.l:=by simp[c,b,cs]
    rw[a];refine .ac ?_;refine bK (hj:=rfl) v.l.length (λj=>[(6, .int .i64 j),(1, .ab v.C)]) (λ_=>⟨[],[]⟩) (λj=>yM fT v.l=yM fT (v.l.drop j)) Z0 λj hj hp=> ?_
    by_cases h1:j<v.l.length
    ·have f:decide ((j:Int)<(v.lv.length:Int))=true:=by rw[v.ba];simp[h1]
     have x1:=lK h1;have e:=DS fT h1;have h:=E v.l[j] (getElem_mem h1)
     repeat' first|refine .s1 ?_|(refine .q ?_ ?_<;>intro O)|fail
     all_goals first|(refine Fin.rb ?_;rw[hp,e];simp_all;done)|(exact⟨h1,Z0,Wg,rfl,rfl,by rw[hp,e];simp_all⟩)
    ·have f:decide ((j:Int)<(v.lv.length:Int))=false:=by rw[v.ba];simp;omega
     refine .go ?_;refine Fin.rb ?_;rw[hp,drop_eq_nil_of_le om,yM]
   ·have es:=bnT cs;refine .ac ?_;refine Fin.rb ?_;simp[cs]
  ·have g:decide ((0:Int)<(v.mv.length:Int))=true:=by rw[d];simp[b]
   refine .ac ?_;refine Fin.rb ?_;simp[b]
 ·have en:=bnT c;refine .ac ?_;refine Fin.rb ?_;simp[c]
def aDf(v:AH)(hv:v.size<=1048576)(k:v.kind=7)(d:decide ((0:Int)<(v.lv.length:Int)) = !decide (v.l.length=0))(t:decide ((0:Int)<(v.mv.length:Int)) = !decide (v.m.length=0))(E:∀x∈v.m,AN prog 158 [x.v.C] (.bool (g7 fT x.v))):AN prog 158 [v.C] (.bool (g7 fT v)):=by
 have r:=v.ax;have o:=v.bu;have p:=v.b3;have u:(v.kind==0)=false:=We
 have w:(v.kind==1)=false:=We
 have y:(v.kind==2)=false:=We
 have z:(v.kind==3)=false:=We
 have u4:(v.kind==4)=false:=We
 have u5:(v.kind==5)=false:=We
 have u6:(v.kind==6)=false:=We
 have u7:(v.kind==7)=true:=We
 have u8:(v.kind==8)=false:=We
 have w1:(v.kind != 1)=true:=We
 have w2:(v.kind != 2)=true:=We
 have w6:(v.kind != 6)=true:=We
 have w7:(v.kind != 7)=false:=We
 refine pEn 2 func158 ?_;rw[lM,if_neg om,if_pos k];by_cases c:v.n=0
 ·have en:=bnF c;by_cases b:v.l.length=0
  ·have g:decide ((0:Int)<(v.lv.length:Int))=false:=by rw[d];simp[b]
   by_cases cs:v.s=[]
   ·have es:=bnF cs;have a:(C7 fT v.m&&(v.n==0&&v.s==[]&&decide (v.l.length=0)))=C7 fT v.m:=by simp[c,b,cs]
    rw[a];refine .ac ?_;refine bK (hj:=rfl) v.m.length (λj=>[(7, .int .i64 j),(1, .ab v.C)]) (λ_=>⟨[],[]⟩) (λj=>C7 fT v.m=C7 fT (v.m.drop j)) Z0 λj hj hp=> ?_
    by_cases h1:j<v.m.length
    ·have f:decide ((j:Int)<(v.mv.length:Int))=true:=by rw[v.bl];simp[h1]
     have x1:=xU h1;have e:=x7 fT h1;have h:=E v.m[j] (getElem_mem h1);have i:=Ia v.m[j].name (by have:=K8 h1;omega)
     repeat' first|refine .s1 ?_|(refine .q ?_ ?_<;>intro O)|fail
     all_goals first|(refine Fin.rb ?_;rw[hp,e];simp_all;done)|(exact⟨h1,Z0,Wg,rfl,rfl,by rw[hp,e];simp_all⟩)
    ·have f:decide ((j:Int)<(v.mv.length:Int))=false:=by rw[v.bl];simp;omega
     refine .go ?_;refine Fin.rb ?_;rw[hp,drop_eq_nil_of_le om,C7]
   ·have es:=bnT cs;refine .ac ?_;refine Fin.rb ?_;simp[cs]
  ·have g:decide ((0:Int)<(v.lv.length:Int))=true:=by rw[d];simp[b]
   refine .ac ?_;refine Fin.rb ?_;simp[b]
 ·have en:=bnT c;refine .ac ?_;refine Fin.rb ?_;simp[c]
def Gt:∀N:Nat,N<=1048576->∀v:AH,v.size<=N->AN prog 158 [v.C] (.bool (g7 fT v))
 |0,_,v,hv=>absurd hv Xp
 |N+1,o,v,hv=>by
  have E:=Gt N om
  have a:decide ((0:Int)<(v.lv.length:Int)) = !decide (v.l.length=0):=by rw[v.ba,Bool.eq_iff_iff];simp only[decide_eq_true_eq,Bool.not_eq_true', decide_eq_false_iff_not];omega
  have b:decide ((0:Int)<(v.mv.length:Int)) = !decide (v.m.length=0):=by rw[v.bl,Bool.eq_iff_iff];simp only[decide_eq_true_eq,Bool.not_eq_true', decide_eq_false_iff_not];omega
  by_cases c:v.kind=0
  ·exact aD6 v om c a b
  by_cases d:v.kind=1
  ·exact aD7 v om d a b
  by_cases e:v.kind=2
  ·exact aD8 v om e a b
  by_cases f:v.kind=3
  ·exact aD9 v om f a b
  by_cases g:v.kind=4
  ·exact aDa v om g a b
  by_cases h:v.kind=5
  ·exact aDb v om h a b
  by_cases n:v.kind=8
  ·exact aDc v om n a b
  by_cases i:v.kind=6
  ·exact aDe v om i a b (λx Y=>E x (by
    obtain⟨j,hj,rfl⟩:=List.getElem_of_mem Y
    have:=dI hj;omega))
  by_cases k:v.kind=7
  ·exact aDf v om k a b (λx Y=>E x.v (by
    obtain⟨j,hj,rfl⟩:=List.getElem_of_mem Y
    have:=dP hj;omega))
  exact aDd v om a b
def KS(n:AF):AN prog 241 [.str n] (.bool (kN n)):=by
 refine pEn 2 func241 ?_
 repeat' first|refine .s1 ?_|(refine .q ?_ ?_<;>intro O)|fail
 all_goals
  refine Fin.rb ?_;unfold kN C8 cW iB sID;simp_all
def DO(s:AI)(name:AF)(hs:s.size<=1048576):AN prog 162 [s.C, .str name] (.tup [(bN s name).1.C, .bool (bN s name).2]):=by
 have a:=KS name;have hl:=s.len;refine pER [.cell 4 53, .tmp 5] func162 ?_;cases c:kN name with
 |true=>rw[c]at a;refine .ac ?_;refine aI rfl ?_;rw[bN,dQ,if_pos c];exact AC.tup (AA.cons Dh (aD _))
 |false=>
  rw[c]at a;refine .ac ?_;refine bK (hj:=Zp) s.ah.length (λk=>[(6, .int .i64 k),(2, .ab s.C),(1, .str name),(4, .ptr 0 0)]) (λ_=>⟨[.cells [.int .i64 0, .str [], .slice [] .nil, .slice [] .nil, .slice [] .nil, .slice [] .nil]],[]⟩) (λk=>dQ s name=(s.ah.drop k).find? (λd=>d.name==name)) Z0 λk hk hp=> ?_
  by_cases h1:k<s.ah.length
  ·have e:=ltT h1;have x1:=aU (f:=Ag.C) h1;have b:=yA (p:=λd:Ag=>d.name==name) h1
   repeat' first|refine .lb ?_|refine .s1 ?_|(refine .q ?_ ?_<;>intro O)|fail
   ·refine aI rfl (AC.eq ?_);rw[bN,hp,b,if_pos O];rfl
   ·exact⟨h1,Z0,Wg,rfl,rfl,X1⟩
  ·have e:=ltF h1;refine .go ?_;refine aI rfl ?_;rw[bN,hp,drop_eq_nil_of_le om];exact AC.tup (AA.cons Dh (aD _))
def N5(l:List AO)(name:AF)(hl:l.length<=68719476736):AN prog 136 [.slice (l.map AO.C) .no, .str name] (.tup [(p7 l name).1.C, .bool (p7 l name).2]):=by
 refine pER [.cell 4 148, .tmp 5] func136 ?_;refine .go ?_;refine bK (hj:=rfl) l.length (λk=>[(6, .int .i64 k),(0, .slice (l.map AO.C) .no),(1, .str name),(4, .ptr 0 0)]) (λ_=>⟨[.cells [.str [], .str [], .int .i64 0, .int .i64 0, .bool false, .int .i64 0, .int .i64 0, .str [], .slice [] .nil, .slice [] .nil]],[]⟩) (λk=>sD l name=(l.drop k).find? (λp=>p.name==name)) Z0 λk hk hp=> ?_
 by_cases h1:k<l.length
 ·have b:=ltT h1;have x1:=aU (f:=AO.C) h1;have a:=yA (p:=λp:AO=>p.name==name) h1
  repeat' first|refine .s1 ?_|(refine .q ?_ ?_<;>intro O)|fail
  ·refine aI rfl (AC.eq ?_);rw[p7,hp,a,if_pos O];rfl
  ·exact⟨h1,Z0,Wg,rfl,rfl,Yh⟩
 ·have b:=ltF h1;refine .go ?_;refine aI rfl ?_;rw[p7,hp,drop_eq_nil_of_le om];exact AC.tup (AA.cons zT (aD _))
def wI(name:AF)(l:List AG)(hl:l.length<=9223372036854775807):AN prog 42 [.str name, .slice (l.map AG.C) .no] (.tup [(bR name l).1.C, .bool (bR name l).2]):=by
 refine pER [.cell 4 43, .tmp 5] func42 ?_;refine .go ?_;refine bK (hj:=rfl) l.length (λk=>[(6, .int .i64 k),(1, .slice (l.map AG.C) .no),(0, .str name),(4, .ptr 0 0)]) (λ_=>⟨[.cells fI],[]⟩) (λk=>bR name l=bR name (l.drop k)) Z0 λk hk hp=> ?_
 by_cases h1:k<l.length
 ·have a:=ltT h1;have x1:=aU (f:=AG.C) h1
  repeat' first|refine .s1 ?_|(refine .q ?_ ?_<;>intro O)|fail
  ·refine aI rfl (AC.eq ?_);rw[hp,pK h1,if_pos O];rfl
  ·exact⟨h1,Z0,Wg,rfl,rfl,XX⟩
 ·have a:=ltF h1;refine .go ?_;refine aI rfl ?_;rw[hp,drop_eq_nil_of_le om,bR];exact AC.tup (AA.cons cE (aD _))
end Go.Proofs.YtdodieljpcfpcaaGreatDoor
namespace Go.Av
open Go
section
variable [AK]
variable {P:Program} {A:Array Oper} {G:Bool} {K:AX->AE->St->Prop} {C:List Oper} {I:List Ak} {s:AE} {H:St} {R:TypeId} {D:String} {S:Array Edge}
end
end Go.Av
namespace Go.Proofs.YtdodieljpcfpcaaGreatDoor
open Go Go.Av Go.Proofs.Tryz
attribute [local irreducible] AB AD AN AQ Av.AS AZ
end Go.Proofs.YtdodieljpcfpcaaGreatDoor
namespace Go.Av
open Go
section
variable [AK]
variable {P:Program} {A:Array Oper} {G:Bool} {K:AX->AE->St->Prop} {C:List Oper} {I:List Ak} {s:AE} {H:St} {d:Option Tmp} {R:TypeId} {D:String} {S:Array Edge}
end
end Go.Av
namespace Go.Proofs.YtdodieljpcfpcaaGreatDoor
open Go Go.Av Go.Proofs.Tryz
attribute [local irreducible] AB AD AN AQ Av.AS AZ
theorem V7(s:AI)(n:AF)(a b:Int):fJ s n [a,b,b]=fJ s n [a,b]:=Zd
theorem RB(s:AI)(n:AF)(a:Int):fJ s n [a,a,a]=fJ s n [a]:=Zd
def RC(s:AI)(name:AF)(a b c:Int)(hs:s.size<=1048576):AN prog 207 [s.C, .str name, .int .i64 a, .int .i64 b, .int .i64 c] (.bool (fJ s name [a,b,c])):=by
 have hf:=DO s name hs;refine pEn 10 func207 ?_;unfold fJ;generalize bN s name=r at *
 obtain⟨d,ok⟩:=r;dsimp only at *
 repeat' first|refine .br ?_|refine .s1 ?_|(refine .q ?_ ?_<;>intro O)|fail
 all_goals
  refine Fin.rb ?_
  first|(simp_all;done)|(simp_all;rw[Bool.eq_iff_iff];simp)
def Ju(s:AI)(name:AF)(hs:s.size<=1048576):AN prog 134 [s.C, .str name] (.bool (eC s name)):=by have h:=RC s name 0 4 4 hs;rw[V7]at h;refine pEn 4 func134 ?_;refine .ac ?_;exact bW
def EH(s:AI)(name:AF)(hs:s.size<=1048576):AN prog 161 [s.C, .str name] (.bool (fQ s name)):=by
 have h:=RC s name 1 2 3 hs
 skip
 refine pEn 4 func161 ?_;refine .ac ?_;exact bW
def wJ(s:AI)(name:AF)(hs:s.size<=1048576):AN prog 198 [s.C, .str name] (.bool (fJ s name [1])):=by have h:=RC s name 1 1 1 hs;rw[RB]at h;refine pEn 4 func198 ?_;refine .ac ?_;exact bW
def T3(s:AF)(hs:s.length<=9223372036854775807):AN prog 305 [.str s] (.bool (JM s)):=by
 refine pEn 2 func305 ?_;unfold JM;by_cases h:2<=s.length
 ·have a:decide ((2:Int)<=(s.length:Int))=true:=decide_eq_true om
  repeat' first|refine .s1 ?_|(refine .q ?_ ?_<;>intro O)|refine cR (h1:=zero_le _) (h2:=h) (hy:=List.drop_zero ..) 0 2 ?_|fail
  exact bW
 ·have a:decide ((2:Int)<=(s.length:Int))=false:=decide_eq_false om;refine .go ?_;refine Fin.rb ?_;rw[eq_comm,beq_eq_false_iff_ne];intro e;have:=congrArg List.length e;rw[length_take]at this;simp only[List.length_cons,List.length_nil]at this;omega
def T4(l:List AF)(hl:l.length<=68719476736):AN prog 262 [.slice (l.map AV.str) .no] (.bool (!OE l)):=by
 refine pEn 2 func262 ?_;unfold OE;refine .go ?_;refine bK (hj:=by simp) l.length (λk=>[(3, .int .i64 k),(0, .slice (l.map AV.str) .no)]) (λ_=>⟨[],[]⟩) (λk=>(l.take k).Nodup) Z0 λk hk hp=> ?_
 by_cases h1:k<l.length
 ·have b:=ltT h1;have x1:=aU (f:=AV.str) h1;have ht:=Qg h1;refine .go ?_;refine bK (hj:=by simp) k (λj=>[(4, .int .i64 j),(3, .int .i64 k),(0, .slice (l.map AV.str) .no)]) (λ_=>⟨[],[]⟩) (λj=>l[k]∉l.take j) Z0 λj hj a=> ?_
  by_cases h2:j<k
  ·have d:=ltT h2;have h3:j<l.length:=om
   have e:=aU (f:=AV.str) h3;by_cases c:l[k]=l[j]
   ·have q:=beT c;have hno:¬l.Nodup:=λhn=>by have h4:=(hn.sublist (List.take_sublist (k+1) l));rw[ht]at h4;exact h4.2 (c▸List.mem_take_iff_getElem.2 ⟨j,om,rfl⟩)
    rw[decide_eq_false hno];refine .go ?_;exact bW
   ·have q:=beF c;refine .go ?_;exact⟨h2,Z0,Wg,rfl,rfl,by rw[List.take_succ_eq_append_getElem h3,List.mem_append,List.mem_singleton];exact λh=>h.elim a c⟩
  ·have d:=ltF h2;obtain rfl:j=k:=om
   refine .go ?_;exact⟨h1,Z0,Wg,rfl,rfl,ht.2 ⟨hp,a⟩⟩
 ·have b:=ltF h1;obtain rfl:k=l.length:=om
  rw[take_length]at hp;rw[decide_eq_true hp];refine .go ?_;exact bW
def aCL(l:List AF)(hl:dA l<=68719476736):AN prog 259 [.slice (l.map AV.str) .no] (.bool (sI l)):=by
 have a:l.length<=68719476736:=by have:=aJ (size:=λs:AF=>s.length+1) (λ_=>om) l;unfold dA at hl;omega
 have ht:=T4 l a;refine pEn 2 func259 ?_;unfold sI Lq;refine .go ?_;refine bK (hj:=by simp) l.length (λk=>[(3, .int .i64 k),(0, .slice (l.map AV.str) .no)]) (λ_=>⟨[],[]⟩) (λk=>(l.take k).any JM=false) Z0 λk hk hp=> ?_
 by_cases h1:k<l.length
 ·have d:=ltT h1;have x1:=aU (f:=AV.str) h1;have X:=T3 l[k] (by have:=aN (size:=λs:AF=>s.length+1) (getElem_mem h1);unfold dA at hl;omega);have b:(l.take (k+1)).any JM=((l.take k).any JM||JM l[k]):=by rw[List.take_succ_eq_append_getElem h1,List.any_append];simp
  cases c:JM l[k]<;>rw[c]at X
  ·refine .go ?_;exact⟨h1,Z0,Wg,rfl,rfl,by rw[b,hp,c];rfl⟩
  ·have ha:l.any JM=true:=List.any_eq_true.2 ⟨_,getElem_mem h1,c⟩;rw[ha,Bool.not_true,Bool.and_false];refine .go ?_;exact bW
 ·have d:=ltF h1;obtain rfl:k=l.length:=om
  rw[take_length]at hp;rw[hp,Bool.not_false,Bool.and_true];refine .go ?_;refine Fin.rb ?_;exact Bool.not_not _
def MC(s:AI)(hs:s.size<=1048576):AN prog 257 [s.C] (.slice ((s.ah.map Ag.name).map AV.str) .no):=by
 have hl:=s.len;refine pEn 2 func257 (O:=by simp[AV.K,aR, -map_map]) ?_
 repeat' first|refine .br ?_|refine .s1 ?_|(refine .q ?_ ?_<;>intro O)|fail
 refine eJ 3 false 1 rfl ?_;refine bK s.ah.length (λk=>[(4, .int .i64 k),(1, .ab s.C),(3, .slice (((s.ah.take k).map Ag.name).map AV.str) (.own 0 1))]) (λk=>⟨[],[.len k]⟩) (λ_=>True) Z0 λk hk _=> ?_
 have a:(((s.ah.take k).map Ag.name).map AV.str).length=k:=Wh
 by_cases h1:k<s.ah.length
 ·have b:=ltT h1;have x1:=aU (f:=Ag.C) h1
  repeat' first|refine .s1 ?_|(refine .q ?_ ?_<;>intro O)|refine bU (n:=k) a ?_|fail
  exact⟨h1,⟨rfl,rfl,WL,trivial⟩,by simp[-List.map_take, -map_map,aM,AV.aa,aF,AI.K],WC,rfl,trivial⟩
 ·have b:=ltF h1;obtain rfl:k=s.ah.length:=om
  rw[take_length];refine .go ?_;exact aP rfl (AC.no (aD _))
theorem Ib{a n:Nat}(y:AV):∀xs:List AV,aE a n (xs++[y])=(aE a n xs&&y.aa a n)
 |[]=>by simp[aE]
 |x::xs=>by rw[List.cons_append,aE,aE,Ib y xs,Bool.and_assoc]
theorem Ic{Q N:Nat->Nat}(y:AV):∀xs:List AV,aW Q N (xs++[y])=aW Q N xs++[y.ae Q N]
 |[]=>by simp[aW]
 |x::xs=>by rw[List.cons_append,aW,aW,Ic y xs];rfl
section
variable [AK]
variable {P:Program} {A:Array Oper} {G:Bool} {K:AX->AE->St->Prop} {C:List Oper} {I:List Ak} {s:AE} {H:St} {d:Option Tmp} {R:TypeId} {D:String} {S:Array Edge}
def Gu{f:FuncId}{args:Array Operand}{p:Array TypeId}{xs ys cls cls': List AV}{z n c:Nat}{T': List Tok}(j:Nat)(ha:j7 s args.toList some=some (cls++[.slice xs (.own j z)]))
  (hp:AQ P f (cls'++ [.slice xs (.own 0 z)]) ⟨[],[.len n]⟩ (λe g=>e = .ret (.slice ys (.own 0 z))/\g=⟨[],[.len c]⟩)) (hj:H.T[j]? =some (.len n)) (Y:aB xs=true) (hy:aB ys=true) (O:aB cls'= true) (hw:AA (cls++[.slice xs (.own j z)]) (cls'++ [.slice xs (.own j z)]))
  (hT': j5 j (.len c) H.T some=some T') (k:AD P A G K C (.all::I) (iJ d (.slice ys (.own j z)) s) ⟨H.B,T'⟩):AD P A G K (⟨d, .call ⟨.value (.func f),args,p⟩,R,D,S,none⟩::C) I s H:=by
 have b:j<H.T.length:=(List.getElem?_eq_some_iff.1 hj).1;have l:emb H.T.length [j] 0=j:=rfl;refine lX (nB:=H.B.length) (nT:=H.T.length) (B0:=[]) (T0:=[.len n]) (B1:=[]) (T1:=[.len c]) (v0 := .slice ys (.own 0 z)) [] [j] ha hp rfl rfl ⟨List.nodup_nil,Wa⟩ ⟨Wa,YC⟩ rfl rfl (λk i ob h=>Wm) (λk i t h ht=> ?_) rfl rfl
  ?_ ?_ ?_ (B':= H.B) (T':= T') ?_ ?_ k
 ·cases k with
  |zero=>simp at h ht;subst h;subst ht;exact hj
  |succ k=>simp at h
 ·rw[Ib,aC _ _ _ O,AV.aa,aC _ _ _ Y];rfl
 ·rw[Ic,aS _ _ _ O,AV.ae,aS _ _ _ Y];exact hw
 ·rw[AV.ae,aS _ _ _ hy];rfl
 ·rw[pI];simp
 ·obtain⟨_,a⟩:=d6 _ _ _ _ _ hT';rw[<-Option.some.inj a];simp[fA,upd,Tok.ae]
end
def MD(s:AI)(name:AF)(hs:s.size<=1048576):AN prog 161 [s.C, .str name] (.bool (fQ s name)):=by have h1:=RC s name 1 2 3 hs;refine pEn 4 func161 ?_;exact .wc
def aCM(t:Ae)(ht:t.name.length<=68719476736):AN prog 282 [t.C] (K9 t).C:=by
 have hr:=kX t om;refine pER [.cell 2 59] func282 ?_;unfold K9;cases c:cC t with
 |true=>
  rw[c]at hr;obtain⟨_,d,e,a,f⟩:=fW.1 c;have b:=GN c;rw[if_pos rfl]
  repeat' first|refine .s1 ?_|(refine .q ?_ ?_<;>intro O)|refine R6 rfl rfl (aDv a b) ?_|fail
  exact aO
 |false=>rw[c]at hr;rw[if_neg Wc];refine .go ?_;exact aO
def Cz(s:AI)(u name:AF)(hs:s.size<=1048576):AN prog 97 [s.C, .str u, .str name] (.tup [(aK s u name).1.C, .bool (aK s u name).2]):=by
 have b:=EH s u hs;have hF:=DO s u hs;have o:=(iC (name:=u) (show s.size<=68719476736 by omega)).2.2.2.1;have e1 := @IN s u name;have m := @IP s u name;have n := @IQ s u name;refine pER [.cell 6 61, .tmp 7] func97 ?_;by_cases c:name=bC/\fQ s u=true
 ·obtain⟨a,h⟩:=c;rw[e1 a h];subst a;rw[h]at b;have j:(bC==[95,95,116,121,112,101,110,97,109,101])=true:=by decide
  refine .ac ?_;refine aI rfl ?_;exact AC.tup (AA.cons g8 (aD _))
 have hn:(name==[95,95,116,121,112,101,110,97,109,101])=true->fQ s u=false:=λY=>by
  have:name=bC:=by unfold bC;simpa using Y
  cases e:fQ s u with
  |false=>rfl
  |true=>exact absurd ⟨this,e⟩ c
 by_cases k:(bN s u).1.kind=1\/(bN s u).1.kind=2
 ·rw[n c k];have q:((bN s u).1.kind != 1)=true->((bN s u).1.kind != 2)=false:=λY=>by
   rcases k with k|k
   ·rw[k]at Y;cases Y
   ·rw[k];rfl
  generalize bN s u=r at *
  obtain⟨d,ok⟩:=r;dsimp only at *
  cases g:name==[95,95,116,121,112,101,110,97,109,101]
  all_goals try rw[hn g]at b
  all_goals cases j:d.kind != 1
  all_goals try have w:=q j
  all_goals
   refine .ac ?_;refine bK (hj:=rfl) d.fields.length (λk=>[(10, .int .i64 k),(2, .str name),(6, .ptr 0 0),(8, .ptr 1 0)]) (λ_=>⟨[.cells [.str [], .slice [] .nil, .str [], .int .i64 0, .int .i64 0, .slice [] .nil], .cells [.int .i64 d.kind, .str d.name, .slice (d.faces.map AV.str) .no, .slice (d.fields.map Ah.C) .no, .slice (d.aw.map AV.str) .no, .slice (d.params.map AO.C) .no]],[]⟩) (λk=>M0 d.fields name=(d.fields.drop k).find? (λf=>f.name==name)) Z0 λk hk hp=> ?_
   by_cases h1:k<d.fields.length
   ·have l:=ltT h1;have x1:=aU (f:=Ah.C) h1;have i:=yA (p:=λf:Ah=>f.name==name) h1;cases a:d.fields[k].name==name
    ·refine .go ?_;exact⟨h1,Z0,Wg,Wf,rfl,by rw[hp,i,if_neg W5]⟩
    ·refine .go ?_;refine aI rfl (AC.eq ?_);rw[hp,i,if_pos a];rfl
   ·have l:=ltF h1;refine .go ?_;refine aI rfl ?_;rw[hp,drop_eq_nil_of_le om];exact AC.tup (AA.cons g8 (aD _))
 ·rw[m c k];have t:((bN s u).1.kind != 1)=true:=by rw[bne_iff_ne];exact λx=>k (.inl x)
  have v:((bN s u).1.kind != 2)=true:=by rw[bne_iff_ne];exact λx=>k (.inr x)
  cases g:name==[95,95,116,121,112,101,110,97,109,101]
  ·refine .ac ?_;refine aI rfl ?_;exact AC.tup (AA.cons g8 (aD _))
  ·rw[hn g]at b;refine .ac ?_;refine aI rfl ?_;exact AC.tup (AA.cons g8 (aD _))
def tZ(s:AI)(name:AF)(hs:s.size<=1048576):AN prog 172 [s.C, .str name] (.slice ((jK s name).map AV.str) .no):=by
 have hf:=DO s name hs;have hz:=iC (name:=name) (show s.size<=68719476736 by omega);have hl:=s.len;refine pEn 4 func172 (O:=aR _) ?_;unfold jK;unfold bN at hf hz;cases j:dQ s name with
 |none=>rw[j]at hf;refine .ac ?_;exact aP rfl (AC.no (aD _))
 |some d=>
  rw[j]at hf hz;simp only at hf hz ⊢;by_cases p:d.kind=1
  ·have y:=beT p;rw[if_pos p];repeat' first|refine eJ 7 false 1 rfl ?_|refine .br ?_|refine .s1 ?_|(refine .q ?_ ?_<;>intro O)|refine bU (n:=0) rfl ?_|fail
   exact aP rfl (AC.no (aD _))
  ·have y:(d.kind==1)=false:=by simp[p]
   rw[if_neg p];by_cases r:d.kind=2
   ·have z:=beT r;rw[if_pos r];refine .ac ?_;refine eJ 7 false 1 rfl ?_;refine bK s.ah.length (λk=>[(8, .int .i64 k),(1, .str name),(2, .ab s.C),(7, .slice (((s.ah.take k).foldl (λl x=>iS l x name) []).map AV.str) (.own 0 1))]) (λk=>⟨[.cells [.int .i64 d.kind, .str d.name, .slice (d.faces.map AV.str) .no, .slice (d.fields.map Ah.C) .no, .slice (d.aw.map AV.str) .no, .slice (d.params.map AO.C) .no]],[.len ((s.ah.take k).foldl (λl x=>iS l x name) []).length]⟩) (λ_=>True) Z0 λk hk _=> ?_
    by_cases h1:k<s.ah.length
    ·have u:=ltT h1;have x1:=aU (f:=Ag.C) h1;have w:=lP (getElem_mem h1);have v:=s.ah[k].lens;have i:=zI s.ah[k].faces name om;have b:=sQ (f:=λl x=>iS l x name) (a:=[]) h1;have hpl:=D1 name (s.ah.take k);rw[length_take]at hpl;generalize (s.ah.take k).foldl (λl x=>iS l x name) []=xs at b hpl;have e:=zI xs s.ah[k].name om;by_cases o:s.ah[k].kind=1
     ·have w1:=beT o;by_cases c:name∈s.ah[k].faces
      ·rw[decide_eq_true c]at i;replace b:=b.trans (show iS xs s.ah[k] name=cH xs s.ah[k].name by unfold iS;rw[if_pos ⟨o,c⟩]);unfold cH at b;by_cases g:s.ah[k].name∈xs
       ·rw[decide_eq_true g]at e;rw[if_pos g]at b;refine .go ?_;exact⟨h1,⟨rfl,rfl,rfl,Wz,trivial⟩,Wo,Wf,Wz,trivial⟩
       ·rw[decide_eq_false g]at e;rw[if_neg g]at b;repeat' first|refine .s1 ?_|(refine .q ?_ ?_<;>intro O)|refine bU (n:=xs.length) (length_map ..) ?_|fail
        exact⟨h1,⟨rfl,rfl,rfl,Y6,trivial⟩,Wo,Wf,Yq,trivial⟩
      ·rw[decide_eq_false c]at i;replace b:=b.trans (show iS xs s.ah[k] name=xs by unfold iS;rw[if_neg (λh=>c h.2)]);refine .go ?_;exact⟨h1,⟨rfl,rfl,rfl,Wz,trivial⟩,Wo,Wf,Wz,trivial⟩
     ·have w1:=beF o;replace b:=b.trans (show iS xs s.ah[k] name=xs by unfold iS;rw[if_neg (λh=>o h.1)]);refine .go ?_;exact⟨h1,⟨rfl,rfl,rfl,Wz,trivial⟩,Wo,Wf,Wz,trivial⟩
    ·have u:=ltF h1;obtain rfl:k=s.ah.length:=om
     rw[take_length];refine .go ?_;exact aP rfl (AC.no (aD _))
   ·have z:=beF r;rw[if_neg r];by_cases t:d.kind=3
    ·have q3:=beT t;rw[if_pos t];refine .ac ?_;refine eJ 7 false 1 rfl ?_;refine bK d.aw.length (λk=>[(10, .int .i64 k),(2, .ab s.C),(5, .ptr 0 0),(7, .slice (((d.aw.take k).foldl (kB s) []).map AV.str) (.own 0 1))]) (λk=>⟨[.cells [.int .i64 d.kind, .str d.name, .slice (d.faces.map AV.str) .no, .slice (d.fields.map Ah.C) .no, .slice (d.aw.map AV.str) .no, .slice (d.params.map AO.C) .no]],[.len ((d.aw.take k).foldl (kB s) []).length]⟩) (λ_=>True) Z0 λk hk _=> ?_
     by_cases h1:k<d.aw.length
     ·have u:=ltT h1;have x1:=aU (f:=AV.str) h1;have m:=wJ s d.aw[k] hs;have b:=sQ (f:=kB s) (a:=[]) h1;have hpl:=D2 s (d.aw.take k);rw[length_take]at hpl;generalize (d.aw.take k).foldl (kB s) []=xs at b hpl;have e:=zI xs d.aw[k] om;cases c:fJ s d.aw[k] [1] with
      |true=>
       rw[c]at m;replace b:=b.trans (show kB s xs d.aw[k]=cH xs d.aw[k] by unfold kB;rw[if_pos c]);unfold cH at b;by_cases g:d.aw[k]∈xs
       ·rw[decide_eq_true g]at e;rw[if_pos g]at b;refine .go ?_;exact⟨h1,⟨rfl,rfl,rfl,Wz,trivial⟩,Wo,Wf,Wz,trivial⟩
       ·rw[decide_eq_false g]at e;rw[if_neg g]at b;repeat' first|refine .s1 ?_|(refine .q ?_ ?_<;>intro O)|refine bU (n:=xs.length) (length_map ..) ?_|fail
        exact⟨h1,⟨rfl,rfl,rfl,Y6,trivial⟩,Wo,Wf,Yq,trivial⟩
      |false=>rw[c]at m;replace b:=b.trans (show kB s xs d.aw[k]=xs by unfold kB;rw[if_neg YS]);refine .go ?_;exact⟨h1,⟨rfl,rfl,rfl,Wz,trivial⟩,Wo,Wf,Wz,trivial⟩
     ·have u:=ltF h1;obtain rfl:k=d.aw.length:=om
      rw[take_length];refine .go ?_;exact aP rfl (AC.no (aD _))
    ·have q3:=beF t;rw[if_neg t];refine .ac ?_;exact aP rfl (AC.no (aD _))
def V8(a b:Ae)(ha:a.name.length<=68719476736)(hb:b.name.length<=68719476736):AN prog 283 [a.C,b.C] (.bool (aAi a b)):=by
 have h1:=kX a om;have h2:=kX b om;refine pEn 4 func283 ?_;unfold aAi;cases c:cC a<;>rw[c]at h1
 ·repeat' first|refine .br ?_|refine .s1 ?_|(refine .q ?_ ?_<;>intro O)|refine aH h1 ?_|fail
  exact bW
 cases d:cC b<;>rw[d]at h2
 ·repeat' first|refine .br ?_|refine aH h1 ?_|refine aH h2 ?_|refine .s1 ?_|(refine .q ?_ ?_<;>intro O)|fail
  exact bW
 cases e:(a.name==b.name)
 ·repeat' first|refine .br ?_|refine aH h1 ?_|refine aH h2 ?_|refine .s1 ?_|(refine .q ?_ ?_<;>intro O)|fail
  exact bW
 cases f:(a.ak==b.ak)
 ·repeat' first|refine .br ?_|refine aH h1 ?_|refine aH h2 ?_|refine .s1 ?_|(refine .q ?_ ?_<;>intro O)|fail
  exact bW
 repeat' first|refine .br ?_|refine aH h1 ?_|refine aH h2 ?_|refine .s1 ?_|(refine .q ?_ ?_<;>intro O)|refine R6 (r:=OF b.ay a.ay) rfl rfl rfl ?_|fail
 exact bW
def aDg(p q:α->Bool)(h:∀x,q x = !p x)(l:List α):(!l.any p)=l.all q:=WN
def N6{α:Type}{g:α->AF}{size:α->Nat}(h:∀x,(g x).length+1<=size x):∀l:List α,dA (l.map g)<=aA size l+1
 |[]=>by simp[dA,aA]
 |x::l=>by have h1:=N6 h l;have h2:=h x;unfold dA at *;simp only[List.map_cons,aA];omega
def wK(s:AI)(l:List AO):List AF:=(l.filter (JO s)).map λp=>p.t.name
def ME(s:AI){l:List AO}(h:k<l.length):wK s (l.take (k+1))=wK s (l.take k)++(if JO s l[k]=true then [l[k].t.name] else []):=by unfold wK;rw[List.take_succ_eq_append_getElem h,List.filter_append,map_append];grind
def DP(s:AI)(l:List AO):(wK s l).length<=l.length:=by unfold wK;rw[length_map];exact List.length_filter_le ..
theorem KT(s:AI)(name:AF)(hs:s.size<=1048576):AQ prog 265 [s.C, .str name] ⟨[],[]⟩ (λe l=>e = .ret (.slice ((iD s name).map AV.str) (.own 0 1))/\l=⟨[],[.len (iD s name).length]⟩):=by
 have hf:=DO s name hs;have hz:=iC (name:=name) (show s.size<=68719476736 by omega);refine kV (cK [4] func265 ?_);unfold iD;generalize bN s name=r at hf hz;obtain⟨x,ok⟩:=r;simp only at hf hz ⊢;refine .ac ?_;refine eJ 5 false 1 rfl ?_;by_cases i:x.kind=5
 ·have v:=beT i;rw[if_pos i];refine bK x.params.length (λk=>[(8, .int .i64 k),(2, .ab s.C),(5, .slice ((wK s (x.params.take k)).map AV.str) (.own 0 1)),(6, .ptr 0 0)]) (λk=>⟨[.cells [.int .i64 x.kind, .str x.name, .slice (x.faces.map AV.str) .no, .slice (x.fields.map Ah.C) .no, .slice (x.aw.map AV.str) .no, .slice (x.params.map AO.C) .no]],[.len (wK s (x.params.take k)).length]⟩) (λ_=>True) Z0 λk hk _=> ?_
  by_cases h1:k<x.params.length
  ·have j:=ltT h1;have x1:=aU (f:=AO.C) h1;have d:=RC s x.params[k].t.name 5 5 5 hs;rw[RB]at d;have a:=ME s h1;have g:=DP s (x.params.take k);rw[length_take]at g;unfold JO at a;generalize wK s (x.params.take k)=xs at a g;have e1:(x.params[k].t.ak==0)=decide (x.params[k].t.ak=0):=by rw[Bool.eq_iff_iff];simp
   have u:(x.params[k].t.ay==1)=decide (x.params[k].t.ay=1):=YN
   have c:∀b,b=false->(if b=true then [x.params[k].t.name] else ([]:List AF))=[]:=λb h=>by rw[h];rfl
   cases m:decide (x.params[k].t.ak=0)<;>rw[m]at e1 a
   ·rw[Bool.false_and,c _ rfl,List.append_nil]at a;refine .go ?_;exact⟨h1,⟨rfl,rfl,WD,rfl,trivial⟩,Wo,Wf,WD,trivial⟩
   cases o:decide (x.params[k].t.ay=1)<;>rw[o]at u a
   ·rw[Bool.false_and,Bool.and_false,c _ rfl,List.append_nil]at a;refine .go ?_;exact⟨h1,⟨rfl,rfl,WD,rfl,trivial⟩,Wo,Wf,WD,trivial⟩
   cases p:fJ s x.params[k].t.name [5]<;>rw[p]at d a
   ·rw[c (true&&(true&&false)) rfl,List.append_nil]at a;refine .go ?_;exact⟨h1,⟨rfl,rfl,WD,rfl,trivial⟩,Wo,Wf,WD,trivial⟩
   rw[if_pos (show (true&&(true&&true))=true from rfl)]at a
   repeat' first|refine .s1 ?_|(refine .q ?_ ?_<;>intro O)|refine bU (n:=xs.length) (length_map ..) ?_|fail
   exact⟨h1,⟨rfl,rfl,by rw[a,map_append];rfl,rfl,trivial⟩,Wo,Wf,by rw[a,List.length_append];rfl,trivial⟩
  ·have j:=ltF h1;obtain rfl:k=x.params.length:=om
   rw[take_length];refine .go ?_;exact⟨.slice ((wK s x.params).map AV.str) (.own 0 1),0,1,rfl,le_refl _,zero_le _,Yw,rfl,by simp[aL,Tok.aa],rfl,rfl⟩
 ·have v:=beF i;rw[if_neg i];refine bK 0 (λk=>[(8, .int .i64 k),(2, .ab s.C),(5, .slice [] (.own 0 1)),(6, .ptr 0 0)]) (λk=>⟨[.cells [.int .i64 x.kind, .str x.name, .slice (x.faces.map AV.str) .no, .slice (x.fields.map Ah.C) .no, .slice (x.aw.map AV.str) .no, .slice (x.params.map AO.C) .no]],[.len 0]⟩) (λ_=>True) Z0 λk hk _=> ?_
  by_cases h1:k<x.params.length
  ·have j:=ltT h1;refine .go ?_;exact⟨.slice [] (.own 0 1),0,1,rfl,le_refl _,zero_le _,by simp[AV.aa,aE],rfl,by simp[aL,Tok.aa],rfl,rfl⟩
  ·have j:=ltF h1;refine .go ?_;exact⟨.slice [] (.own 0 1),0,1,rfl,le_refl _,zero_le _,by simp[AV.aa,aE],rfl,by simp[aL,Tok.aa],rfl,rfl⟩
def T5(s:AI)(name:AF)(hs:s.size<=1048576):AN prog 265 [s.C, .str name] (.slice ((iD s name).map AV.str) .no):=
 AQ.plain (aR _) (by simp[AV.K,aB,AI.K]) ((KT s name hs).mono λe H h=>⟨_,h.1,AC.no (aD _)⟩)
def KU[AK]{P:Program}[Lay P]{N:Nat}{D:List Deferred}{c:Code}{K:AX->AE->St->Prop}{s:AE}{H:St}(L:List α)(E:α->AV)(p:α->α->Bool)(S:Nat->AE)
  (cons:∀(k:Nat) (h:k<L.length),decide ((k:Int)<(L.length:Int))=true->(L.map E)[k]? =some (E L[k])->L[k]∈L->((L.take k).all (λy=>p y L[k])=false->jY p [] L=false)->AB P N D c (thn (Nx S H k ((L.take k).all (λy=>p y L[k])=true)) K) (S k) H)
  (nil:decide ((L.length:Int)<(L.length:Int))=false->jY p [] L=true->AB P N D c (thn (λ_ _=>False) K) (S L.length) H)
  (hs:Av.Sub (S 0) s:=by (repeat' first|exact trivial|refine⟨rfl, ?_⟩)):AB P N D (.loop c) K s H:=by
 refine bK (hj:=by simp) L.length S (λ_=>H) (λk=>jY p [] L=jY p (L.take k) (L.drop k)) hs λk hk hj=> ?_
 by_cases h1:k<L.length
 ·rw[KN h1]at hj;refine(cons k h1 Xg Xg (getElem_mem h1) λh=>by rw[hj,h];rfl).mono λe s' σ' h=> ?_
  cases e with
  |normal=>exact⟨h1,h.sub,h.aa,h.below,h.same,by rw[hj,h.inv];rfl⟩
  |exit id=>exact h
  |goto l=>exact h
  |ret=>exact h
  |pan x=>exact h
 ·obtain rfl:k=L.length:=om
  rw[List.drop_length,jY]at hj;refine(nil Wa hj).mono λe s' σ' h=> ?_
  cases e with
  |normal=>exact absurd h id
  |exit id=>exact h
  |goto l=>exact h
  |ret=>exact h
  |pan x=>exact h
def KV(d:AR)(name:AF)(e:d.ai.length<=68719476736):AN prog 88 [d.C, .str name] (.tup [(cJ d name).1.C, .bool (cJ d name).2]):=by
 refine pER [.cell 4 129, .tmp 5] func88 ?_;unfold cJ iT;refine .ac ?_;refine Tx d.ai Af.C (b:=d.ai.find? λf=>f.name==name) (λ_ r=>r.find? λf=>f.name==name) (λk=>[(6, .int .i64 k),(2, .ab d.C),(1, .str name),(4, .ptr 0 0)]) Z0 rfl (λk x r g x1 c h1 a=> ?_) (λ_ a=> ?_)
 ·rw[<-a,List.find?_cons]
  repeat' first|refine .br ?_|refine .s1 ?_|(refine .q ?_ ?_<;>intro O)|fail
  ·rw[O];exact aO
  ·rw[O];exact nx
 ·rw[<-a];refine .go ?_;exact aI rfl (AC.tup (AA.cons IJ (aD _)))
def Vc(s:AI)(o:Aj):AN prog 45 [s.C,o.C] (.str (aV s o)):=by refine pEn 4 func45 ?_;unfold aV;exact .wc
def Fa(s:AI)(u:AF)(x:Sl)(hs:s.size<=1048576):AN prog 274 [s.C, .str u,x.C] (.str (dF s u x)):=by have h1:=Cz s u x.name hs;refine pEn 6 func274 ?_;unfold dF;exact .wc
def RD(x:Sl):AN prog 291 [x.C] (.str (jL x)):=by refine pEn 2 func291 ?_;unfold jL;exact .wc
def MG:AC (.agg [.str sIf, .str iB, .int .i64 0, .int .i64 1, .bool false, .int .i64 0, .int .i64 0, .str [], .slice [] .nil, .slice [] .nil]) N1.C:=by unfold AO.C N1;rw[show (bO).lv=[] from rfl,show (bO).mv=[] from rfl];exact AC.agg (AA.cons (aG _) (AA.cons (aG _) (AA.cons (aG _) (AA.cons (aG _) (AA.cons (aG _) (AA.cons (aG _) (AA.cons (aG _) (AA.cons (aG _) (AA.cons (AC.no (aD _)) (AA.cons (AC.no (aD _)) (aD _)))))))))))
def Id(n:AF):AN prog 218 [.str n] (.tup [(x5 n).1.C, .bool (x5 n).2]):=by
 refine pER [.cell 2 148, .tmp 3] func218 ?_;unfold x5 Cr;cases h1:n==oE<;>cases h2:n==fU<;>unfold oE at h1<;>unfold fU at h2
 all_goals
  refine .go ?_
  first|exact aI rfl (AC.tup (AA.cons zT (aD _)))|exact aI rfl (AC.tup (AA.cons MG (aD _)))
def MH(x:AM):AN prog 222 [x.C] (.slice ((wH x).map AO.C) .no):=by
 have h1:=Id x.name;refine pEn 2 func222 ?_;unfold wH;unfold x5 at h1;cases O:Cr x.name<;>rw[O]at h1
 all_goals
  refine .ac ?_;exact aP rfl (AC.no (aD _))
def V9(s:AI)(a b:Ae)(hs:s.size<=1048576):AN prog 339 [s.C,a.C,b.C] (.bool (Mz s a b)):=by have h1:=Ju s a.name hs;have h2:=Ju s b.name hs;have h3:=MD s a.name hs;have h4:=MD s b.name hs;refine pEn 6 func339 ?_;unfold Mz;exact .wc
def aAA(a b:List AG)(ha:a.length<=68719476736)(hb:b.length<=68719476736):AN prog 329 [.slice (a.map AG.C) .no, .slice (b.map AG.C) .no] (.bool (My a b)):=by
 refine pEn 4 func329 ?_;unfold My
 repeat' first|refine .br ?_|refine .s1 ?_|(refine .q ?_ ?_<;>intro O)|fail
 ·have:¬a.length=b.length:=by simp at O;omega
  exact mX
 refine lZ a AG.C (λx=>(bR x.name b).2&&rY (bR x.name b).1 x.v) (λk=>[(5, .int .i64 k),(0, .slice (a.map AG.C) .no),(1, .slice (b.map AG.C) .no)]) (λk h1 c x1 d ha=> ?_) (λ_ ha=> ?_)
 ·have h2:=wI a[k].name b om;have h3:=OJ (bR a[k].name b).1 a[k].v;exact .wc
 ·have:a.length=b.length:=by simp at O;omega
  exact .wc
def CF(l:List Sl)(xs:List AF):Prop:=AQ prog 273 [.slice (l.map Sl.C) .no, .slice (xs.map AV.str) (.own 0 1)] ⟨[],[.len xs.length]⟩ (λe H=>e = .ret (.slice ((gA l xs).map AV.str) (.own 0 1))/\H=⟨[],[.len (gA l xs).length]⟩)
def Vd(l:List Sl)(hl:aA Sl.size l<=68719476736)(E:∀x∈l,∀ys:List AF,ys.length+aA Sl.size x.O<=137438953472->CF x.O ys)(xs:List AF)(g:xs.length+aA Sl.size l<=137438953472):
  AB prog Tryz.f273.ntmps [] (uB Tryz.f273) (fin [4] (λe H=>e = .ret (.slice ((gA l xs).map AV.str) (.own 0 1))/\H=⟨[],[.len (gA l xs).length]⟩))
   [(0, .slice (l.map Sl.C) .no),(1, .slice (xs.map AV.str) (.own 0 1))] ⟨[],[.len xs.length]⟩:=by
 have j:=aJ Sl.au l;refine .ac ?_;refine Gk l Sl.C AV.str 1 [] (λk=>gA (l.take k) xs) 1 (λk=>[(5, .int .i64 k),(0, .slice (l.map Sl.C) .no)]) (λk h1 r x1 m=> ?_) (λ_=> ?_) aR (by rw[List.take_zero,pX];rfl) (hσ:=by rw[List.take_zero,pX];rfl)
 ·have i:=F7 (l.take k) xs;have p:=gO (f:=Sl.size) h1;have o:=fO Sl.size l (k+1);have g:=l[k].ax;have h:=H2 h1 xs;have X:=E l[k] m;generalize gA (l.take k) xs=ys at *;generalize l[k]=x at *;have d:=zI ys x.name om;have b:=X ys om;have a:=X (ys++[x.name]) Ya;unfold CF at b a;rw[<-x.bb]at b a;rw[map_append,List.length_append]at a;have c:aB (ys.map AV.str++[AV.str x.name])=true:=by have:=aR (ys++[x.name]);rwa [map_append]at this
  repeat' first|refine .br ?_|refine aH (hw:=hwk) d ?_|refine .s1 ?_|(refine .q ?_ ?_<;>intro O)|refine bU (n:=ys.length) (length_map ..) ?_|refine Gu (cls:=[_]) (cls':= [_]) 0 rfl b rfl (aR _) (aR _) WP (aD _) rfl ?_|refine Gu (cls:=[_]) (cls':= [_]) 0 rfl a rfl c (aR _) WP (aD _) rfl ?_|fail
  all_goals first|exact ny (gA x.O ys) (by rw[h];simp_all[cH])|exact ny (gA x.O (ys++[x.name])) (by rw[h];simp_all[cH])
 ·rw[take_length];refine .go ?_;exact⟨rfl,rfl⟩
def aAB:∀(N:Nat) (l:List Sl),aA Sl.size l<=N->N<=68719476736->∀xs:List AF,xs.length+aA Sl.size l<=137438953472->CF l xs
 |N,l,h,b=>λxs a=>by refine cK [4] func273 (Vd l om (λx Y ys hy=> ?_) xs a);have h1:=aN (size:=Sl.size) Y;have h2:=x.ax;exact aAB (N-1) x.O om om ys hy
termination_by N=>N
decreasing_by have:=x.au;omega
def T6(l:List Sl)(hl:aA Sl.size l<=68719476736):AQ prog 273 [.slice (l.map Sl.C) .no, .slice [] .nil] ⟨[],[]⟩ (λe H=>e = .ret (.slice ((gA l []).map AV.str) (.own 0 1))/\H=⟨[],[.len (gA l []).length]⟩):=by refine cK [4] func273 ?_;refine eJ 1 false 1 rfl ?_;exact AB.weaken (s:=[(0, .slice (l.map Sl.C) .no),(1, .slice [] (.own 0 1))]) (Vd l hl (λx Y ys hy=>aAB 68719476736 x.O Yi (le_refl _) ys hy) [] (by simp only[List.length_nil];omega)) Z0
def RE(l:List Sl)(hl:aA Sl.size l<=68719476736):AQ prog 272 [.slice (l.map Sl.C) .no] ⟨[],[]⟩ (λe H=>e = .ret (.slice ((gA l []).map AV.str) (.own 0 1))/\H=⟨[],[.len (gA l []).length]⟩):=by
 have h0:=T6 l hl;refine cK [2] func272 ?_;repeat' first|refine .br ?_|refine .s1 ?_|(refine .q ?_ ?_<;>intro O)|refine jW rfl rfl h0 Xx (aD _) Yw rfl ?_|fail
 exact⟨rfl,rfl⟩
def jZ(d:AR)(l:List AF)(k:Nat):List AF:=(d.ai.take k).foldl (λout f=>if f.name∈l/\f.name∉out then out++[f.name] else out) []
theorem EI(d:AR)(l:List AF)(h:k<d.ai.length):jZ d l (k+1)=if d.ai[k].name∈l/\d.ai[k].name∉jZ d l k then jZ d l k++[d.ai[k].name] else jZ d l k:=by unfold jZ;rw[List.take_succ_eq_append_getElem h,List.foldl_append,List.foldl_cons,List.foldl_nil]
def zJ(d:AR)(l:List AF)(k:Nat):(jZ d l k).length<=d.ai.length:=by
 have a:∀n,(jZ d l n).length<=n:=λn=>by
  induction n with
  |zero=>simp[jZ]
  |succ n E=>
   by_cases h:n<d.ai.length
   ·rw[EI d l h];grind
   ·have e:jZ d l (n+1)=jZ d l n:=by unfold jZ;rw[List.take_of_length_le om,List.take_of_length_le om]
    grind
 rcases Nat.lt_or_ge k d.ai.length with h|h
 ·grind
 ·have e:jZ d l k=jZ d l d.ai.length:=by unfold jZ;rw[List.take_of_length_le h,take_length]
  simp_all
def aAC(d:AR)(w:List Sl)(t:iA d w<=68719476736)(e:d.ai.length<=68719476736):AN prog 214 [d.C, .slice (w.map Sl.C) .no] (.slice ((mY d w).map AV.str) .no):=by
 have x:aA Sl.size w<=iA d w:=XH
 have h0:=RE w om;refine pEn 4 func214 ?_;repeat' first|refine .br ?_|refine .s1 ?_|(refine .q ?_ ?_<;>intro O)|refine jW rfl rfl h0 Xx (aD _) Yw rfl ?_|fail
 change AB _ _ _ _ _ _ _;refine AB.loop (λr s' H=>∃(i:Nat) (l:List AF),r=iA d w-i/\BF d w i l/\H=⟨[],[.len l.length]⟩/\s'= [(6, .int .i64 i),(5, .slice (l.map AV.str) (.own 0 1)),(2, .ab d.C)])
  (s0:=[(6, .int .i64 (0:Nat)),(5, .slice ((gA w []).map AV.str) (.own 0 1)),(2, .ab d.C)]) Z0 ⟨0,_,rfl,zD d w,rfl,rfl⟩ ?_
 rintro r s' H ⟨i,l,rfl,hI,rfl,rfl⟩;have o:=hI.len;by_cases h1:i<l.length
 ·have m:decide ((i:Int)<(l.length:Int))=true:=decide_eq_true om;have x1:=aU (f:=AV.str) h1;have hn:=zE hI h1;have c:=hn.len;have hf:=KV d l[i] e;unfold cJ at hf;cases a:iT d l[i] with
  |none=>
   rw[a]at hf hn;dsimp only at hf hn;generalize l[i]=nm at *;repeat' first|refine .br ?_|refine .s1 ?_|(refine .q ?_ ?_<;>intro O)|fail
   exact⟨iA d w-(i+1),om,[(6, .int .i64 ((i+1:Nat):Int)),(5, .slice (l.map AV.str) (.own 0 1)),(2, .ab d.C)],Z0,Wg,rfl,i+1,l,rfl,hn,rfl,rfl⟩
  |some f=>
   rw[a]at hf hn c;dsimp only at hf hn c;generalize l[i]=nm at *;obtain⟨p,u⟩:=jO a;have v:=aN (size:=λf:Af=>aA Sl.size f.O) p;have g:aA Sl.size f.O<=iA d w:=XH
   have b:=aAB (iA d w) f.O g t l om;unfold CF at b;repeat' first|refine .br ?_|refine .s1 ?_|(refine .q ?_ ?_<;>intro O)|refine Gu (cls:=[_]) (cls':= [_]) 0 rfl b rfl (aR _) (aR _) Xx (aD _) rfl ?_|fail
   exact⟨iA d w-(i+1),om,[(6, .int .i64 ((i+1:Nat):Int)),(5, .slice ((gA f.O l).map AV.str) (.own 0 1)),(2, .ab d.C)],Z0,Wg,rfl,i+1,_,rfl,hn,rfl,rfl⟩
 ·have m:decide ((i:Int)<(l.length:Int))=false:=decide_eq_false om;have h:=xZ hI om;unfold mY;rw[h];repeat' first|refine .br ?_|refine .s1 ?_|(refine .q ?_ ?_<;>intro O)|fail
  refine Ti 5 rfl (AC.no (aD _)) ?_;refine eJ 9 false 1 rfl ?_;refine Gk d.ai Af.C AV.str 1 [.len l.length] (λk=>jZ d l k) 9 (λk=>[(10, .int .i64 k),(5, .slice (l.map AV.str) .no),(2, .ab d.C)]) (λk h1 m x1 p=> ?_) (λ_=> ?_) aR rfl
  ·have h2:=zI l d.ai[k].name om;have h3:=zI (jZ d l k) d.ai[k].name (by have:=zJ d l k;omega);have h4:=EI d l h1;have y:=zJ d l k;generalize jZ d l k=ys at *;have j:AA [.slice (ys.map AV.str) (.own 1 1), .str d.ai[k].name] [.slice (ys.map AV.str) .no, .str d.ai[k].name]:=AA.cons (AC.no (aD _)) (aD _);repeat' first|refine .br ?_|refine aH (hw:=j) h3 ?_|refine .s1 ?_|(refine .q ?_ ?_<;>intro O)|refine bU (n:=ys.length) (length_map ..) ?_|fail
   all_goals first|exact ny ys (by rw[h4];simp_all)|exact ny (ys++[d.ai[k].name]) (by rw[h4];simp_all)
  ·unfold jZ;rw[take_length];refine .go ?_;exact Fin.rg
def uA{d:AR}(b:d.size<=1048576):d.ops.length<=1048576/\d.ai.length<=1048576/\(∀o∈d.ops,o.size<=1048576)/\(∀f∈d.ai,f.size<=1048576)/\aA (λf:Af=>aA Sl.size f.O) d.ai<=1048576:=by
 have h0:d.size=aA Aj.size d.ops+aA Af.size d.ai+3:=rfl;have h1:=aJ (size:=Aj.size) (λf=>WW) d.ops;have h2:=aJ (size:=Af.size) (λf=>Wy) d.ai;have h3:aA (λf:Af=>aA Sl.size f.O) d.ai<=aA Af.size d.ai:=nE (λf=>Wy) _;refine⟨om,om,λo a=> ?_,λf hf=> ?_,om⟩
 ·have:=aN (size:=Aj.size) a;omega
 ·have:=aN (size:=Af.size) hf;omega
def C0{d:AR}(a:d.size<=1048576){f:Af}(hf:f∈d.ai):aA Sl.size f.O<=1048576:=by have:=(uA a).2.2.2.1 f hf;unfold Af.size at this;omega
def KW{d:AR}(a:d.size<=1048576){o:Aj}(b:o∈d.ops):aA Sl.size o.O<=1048576:=by have:=(uA a).2.2.1 o b;unfold Aj.size at this;omega
theorem KX{β:Type}{f:α->β}{l:List α}(h:k<l.length):(l.take (k+1)).map f=(l.take k).map f++[f l[k]]:=Xf
def zK(d:AR)(l:List Sl):(mY d l).length<=d.ai.length:=by
 have:=zJ d (mC d l) d.ai.length;unfold jZ at this
 rwa [take_length]at this
def Gv(d:AR)(l:List Sl)(x:AF):x∈mY d l↔x∈mC d l/\∃f∈d.ai,f.name=x:=by
 have c:∀(b:List Af) (I:List AF),x∈b.foldl (λa f=>if f.name∈mC d l/\f.name∉a then a++[f.name] else a) I↔x∈I\/(x∈mC d l/\∃f∈b,f.name=x):=by
  intro b;induction b with
  |nil=>intro I;simp
  |cons f b E=>intro I;rw[List.foldl_cons,E];split<;>grind
 have:=c d.ai [];simpa [mY]using this
def N7(d:AR)(a:d.size<=1048576)(l:List Sl)(hl:aA Sl.size l<=1048576):AN prog 214 [d.C, .slice (l.map Sl.C) .no] (.slice ((mY d l).map AV.str) .no):=by obtain⟨_,h2,_,_,b⟩:=uA a;exact aAC d l XH om
def aAD(d:AR)(a:d.size<=1048576):AN prog 148 [d.C] (.bool (oR d)):=by
 have hl:oR d = !(d.ai.all λf => !decide (f.name∈mY d f.O)):=by
  unfold oR;rw[<-List.not_any_eq_all_not,Bool.not_not,Bool.eq_iff_iff,List.any_eq_true,List.any_eq_true];constructor
  ·rintro⟨f,hf,h⟩;exact⟨f,hf,decide_eq_true ((Gv d f.O f.name).2 ⟨of_decide_eq_true h,f,hf,rfl⟩)⟩
  ·rintro⟨f,hf,h⟩;exact⟨f,hf,decide_eq_true ((Gv d f.O f.name).1 (of_decide_eq_true h)).1⟩
 rw[hl];obtain⟨_,h2,_⟩:=uA a;refine pEn 2 func148 ?_;refine .ac ?_;refine lZ d.ai Af.C (λf => !decide (f.name∈mY d f.O)) (λk=>[(3, .int .i64 k),(1, .ab d.C)]) (λk h1 c x1 b ha=> ?_) (λ_ ha=> ?_)
 ·have h3:=N7 d a d.ai[k].O (C0 a b);have h4:=zI (mY d d.ai[k].O) d.ai[k].name (by have:=zK d d.ai[k].O;omega);exact .wc
 ·exact .wc
theorem Gw(a n:Nat)(l:List AF):aE a n (l.map AV.str)=true:=aC _ _ _ (aR _)
theorem Ie(m n:AF):nJ m n=decide (kJ m n<0):=by
 unfold kJ;split
 ·simp_all
 ·split<;>simp_all
def T7(l:List AF)(hl:l.length<=4398046511104):AN prog 279 [.slice (l.map AV.str) .no] (.slice ((yP kJ l).map AV.str) .no):=by
 refine jI (by simp[-map_map,AV.K,aR]) (by simp[aB,AV.K,aR]) (cK [2] func279 ?_);have u:(l.map AV.str).length=l.length:=length_map ..
 repeat' first|refine dH (m:=l.length) (Kp l) u ?_|refine .s1 ?_|(refine .q ?_ ?_<;>intro O)|fail
 change AB _ _ _ _ _ _ _;refine AB.loop (λn s H=>∃(i:Nat) (L:List AF),n=l.length-i/\1<=i/\Bz kJ 0 l.length l L/\BW kJ 0 i L/\H=⟨[],[.Y (L.map AV.str)]⟩/\s=[(4, .int .i64 i),(3, .Y 0 1 l.length 0 l.length)])
  (s0:=[(4, .int .i64 (1:Nat)),(3, .Y 0 1 l.length 0 l.length)])
  Z0 ⟨1,l,rfl,le_refl _,TL _ _ _,TN (le_refl _),rfl,rfl⟩ ?_
 rintro n s H ⟨i,L,rfl,hai,hL,hS,rfl,rfl⟩;have f:((l.length-0:Nat):Int)=(l.length:Int):=rfl;by_cases h1:i<l.length
 ·have z:=ltT h1
  repeat' first|refine jH (hn:=f) ?_|refine .s1 ?_|(refine .q ?_ ?_<;>intro O)|fail
  change AB _ _ _ _ _ _ _;refine AB.loop (λn s H=>∃(j:Nat) (L:List AF),n=l.length+j-l.length/\j<=i/\Bz kJ 0 l.length l L/\BX kJ 0 i j L/\H=⟨[],[.Y (L.map AV.str)]⟩/\s=[(5, .int .i64 j),(4, .int .i64 i),(3, .Y 0 1 l.length 0 l.length)])
   (s0:=[(5, .int .i64 i),(4, .int .i64 i),(3, .Y 0 1 l.length 0 l.length)])
   Z0 ⟨i,L,rfl,le_refl _,hL,Rf hS,rfl,rfl⟩ ?_
  clear hL hS;rintro n s H ⟨j,L,rfl,hji,hL,hG,rfl,rfl⟩;have a:(L.map AV.str).length=l.length:=by rw[length_map];exact hL.len
  have a1:=hL.len;by_cases h2:0<j
  ·obtain⟨k,rfl⟩:∃k,j=k+1:=⟨j-1,om⟩;have d2:decide ((0:Int)<((k+1:Nat):Int))=true:=by simp<;>omega
   have hk:k<L.length:=om
   have t:k+1<L.length:=om
   have e1:L[k]? =some L[k]:=List.getElem?_eq_getElem hk;have g:L[k+1]? =some L[k+1]:=List.getElem?_eq_getElem t;have x1:(L.map AV.str)[k]? =some (.str L[k]):=by rw[List.getElem?_map,e1];rfl
   have x2:(L.map AV.str)[k+1]? =some (.str L[k+1]):=by rw[List.getElem?_map,g];rfl
   have a2:k<l.length-0:=om
   have a3:k+1<l.length-0:=om
   have b:((L.map AV.str).set (k+1) (.str L[k])).length=l.length:=by rw[List.length_set];exact a
   have x3:((L.map AV.str).set (k+1) (.str L[k]))[k]? =some (.str L[k]):=by rw[List.getElem?_set_ne om];exact x1
   repeat' first|refine tF (r:=((k:Nat):Int)) ?_|refine .s1 ?_|(refine .q ?_ ?_<;>intro O)|refine fM ?_|refine j8 ?_|refine fF ?_|refine jH ?_|refine aX (agg:=false) (hn:=a) (he:=x2) ?_|refine aX (agg:=false) (hn:=b) (he:=x3) ?_|fail
   ·have hlt:kJ L[k+1] L[k]<0:=by rw[Ie]at O;simpa using O
    have e:((L.map AV.str).set (k+1) (.str L[k])).set k (.str L[k+1])=(sw L k L[k] L[k+1]).map AV.str:=by simp[sw,List.map_set]
    refine⟨l.length+k-l.length,om,[(5, .int .i64 ((k:Nat):Int)),(4, .int .i64 i),(3, .Y 0 1 l.length 0 l.length)],
     Z0,rfl, ?_,k,sw L k L[k] L[k+1],rfl,om,hL.trans ((VS pZ e1 g hlt).wide om om),hG.step pZ om hji e1 g hlt, ?_,rfl⟩
    ·rw[e];simp[-map_map,aQ,aL,Tok.aa,Gw, -List.map_set]
    ·rw[e];rfl
   ·have o:¬kJ L[k+1] L[k]<0:=by rw[Ie]at O;simpa using O
    have c:=hG.stop pZ (zero_le _) hji om (λ_ x y v w=>by rw[show k+1-1=k by omega,e1]at v;rw[g]at w;cases v;cases w;exact o)
    refine⟨l.length-(i+1),om,[(4, .int .i64 ((i+1:Nat):Int)),(3, .Y 0 1 l.length 0 l.length)],
     Z0,rfl, ?_,i+1,L,rfl,om,hL,c,rfl,rfl⟩
    simp[aQ,aL,Tok.aa,Gw]
  ·have p:j=0:=om
   subst p;have d2:decide ((0:Int)<((0:Nat):Int))=false:=Wa
   have c:=hG.stop pZ (le_refl _) hji om (λh=>om);refine .go ?_;refine⟨l.length-(i+1),om,[(4, .int .i64 ((i+1:Nat):Int)),(3, .Y 0 1 l.length 0 l.length)],
     Z0,rfl, ?_,i+1,L,rfl,om,hL,c,rfl,rfl⟩
   simp[aQ,aL,Tok.aa,Gw]
 ·have z:=ltF h1;have:=Mu pZ (zero_le l.length) (le_refl _) hL (hS.part (le_refl _) om);rw[KJ rfl]at this;subst this;have d:(yP kJ l).length=l.length:=Cp l
  repeat' first|refine jH (hn:=f) ?_|refine .s1 ?_|(refine .q ?_ ?_<;>intro O)|fail
  exact⟨_,_,rfl,(b6 rfl (by simp[d]) rfl).trans (AJ.a6 (AC.no (AA.eq (by rw[List.drop_zero,List.take_of_length_le (by simp[d])]))))⟩
def r8{d:AR}(a:d.size<=1048576)(nm:AF):aA Sl.size (cJ d nm).1.O<=1048576:=by
 unfold cJ;cases hf:iT d nm with
 |none=>exact zero_le _
 |some f=>exact C0 a (jO hf).1
def aAE(s:AI)(hs:s.size<=1048576)(ho:s.ok):AN prog 204 [s.C] (.bool (OH s)):=by
 have hl:=s.len;refine pEn 2 func204 ?_;rw[show (OH s)=s.ah.all (λd => !Iz s d.name) from by unfold OH;exact aDg _ _ (λd=>rfl) _]
 refine .ac ?_;refine bK (hj:=by simp) s.ah.length (λk=>[(3, .int .i64 k),(1, .ab s.C)]) (λ_=>⟨[],[]⟩) (λk=>(s.ah.take k).all (λd => !Iz s d.name)=true) Z0 λk aj x=> ?_
 by_cases hk:k<s.ah.length
 ·have dk:=ltT hk;have xk:=aU (f:=Ag.C) hk;have a6:=getElem_mem hk;have g:=Ha (p:=λd => !Iz s d.name) hk x;have h:=Hb (p:=λd => !Iz s d.name) hk
  try dsimp only at g h
  have ah:=lP a6;generalize hd:s.ah[k]=d at *
  have af:=d.lens;have ag:=d.b1;have h0:=KT s d.name hs;have a2:aB [s.C, .str d.name]=true:=by simp[AV.K,aB,AI.K]
  have ac:=Qo s;have u:Iz s d.name=decide (d.name∈uE (iD s) ((iD s d.name).length+(qV s).length) 0 (iD s d.name)):=rfl;have a5:(iD s d.name).length<=68719476736:=by
   unfold iD;have:=(iC (name:=d.name) (show s.size<=68719476736 by omega)).1;split
   ·have:=DP s (bN s d.name).1.params;unfold wK at this;omega
   ·simp
  generalize iD s d.name=v at h0 u a5;have a0:HA (qV s) v+v.length<=v.length+(qV s).length:=by have:=aAk (qV s) v;omega
  generalize ad:v.length+(qV s).length=N at a0 u;generalize hR:uE (iD s) N 0 v=R at u;rw[u]at g h
  repeat' first|refine .br ?_|refine jW rfl rfl h0 a2 (aD _) Yw rfl ?_|refine .s1 ?_|(refine .q ?_ ?_<;>intro O)|fail
  refine AB.loop (λz s1 H=>∃(i:Nat) (l:List AF),z=N-i/\i<=l.length/\HA (qV s) l+l.length<=N/\uE (iD s) (N-i) i l=R/\H=⟨[],[.len l.length]⟩/\
    s1=[(5, .int .i64 i),(4, .slice (l.map AV.str) (.own 0 1)),(3, .int .i64 k),(1, .ab s.C)])
   (s0:=[(5, .int .i64 (0:Nat)),(4, .slice (v.map AV.str) (.own 0 1)),(3, .int .i64 k),(1, .ab s.C)]) Z0 ⟨0,v,rfl,zero_le _,a0,hR,rfl,rfl⟩ ?_
  rintro z s1 H ⟨i,l,rfl,hil,hcb,hcl,rfl,rfl⟩;have ak:(l.map AV.str).length=l.length:=length_map ..
  by_cases h1:i<l.length
  ·have d1:=ltT h1;have x1:=aU (f:=AV.str) h1;have hg:l[i]? =some l[i]:=List.getElem?_eq_getElem h1;have hn:=T5 s l[i] hs;have w:∀y∈iD s l[i],y∈qV s:=M7 l[i];have o:uE (iD s) (N-(i+1)) (i+1) ((iD s l[i]).foldl cH l)=R:=by rw[<-hcl,show N-i=(N-(i+1))+1 by omega,uE,hg]
   have a7:(iD s l[i]).length<=68719476736:=by
    unfold iD;have:=(iC (name:=l[i]) (show s.size<=68719476736 by omega)).1;split
    ·have:=DP s (bN s l[i]).1.params;unfold wK at this;omega
    ·simp
   generalize iD s l[i]=m at hn w o a7;refine .go ?_;refine bK m.length (λj=>[(7, .int .i64 j),(6, .slice (m.map AV.str) .no),(4, .slice (((m.take j).foldl cH l).map AV.str) (.own 0 1)),(5, .int .i64 i),(3, .int .i64 k),(1, .ab s.C)]) (λj=>⟨[],[.len ((m.take j).foldl cH l).length]⟩) (λ_=>True) Z0 λj hj _=> ?_
   by_cases h2:j<m.length
   ·have d2:=ltT h2;have x2:=aU (f:=AV.str) h2;have b:=sQ (f:=cH) (a:=l) h2;have a1:=GS (U:=qV s) (l:=l) (xs:=m.take j) (λy hy=>w y (List.mem_of_mem_take hy));generalize (m.take j).foldl cH l=xs at b a1;have e:=zI xs m[j] om;have t:AA [.slice (xs.map AV.str) (.own 0 1), .str m[j]] [.slice (xs.map AV.str) .no, .str m[j]]:=AA.cons (AC.no (aD _)) (aD _);unfold cH at b;by_cases c:m[j]∈xs
    ·rw[decide_eq_true c]at e;replace b:=b.trans (if_pos c)
     repeat' first|refine aH (hw:=t) e ?_|refine .s1 ?_|(refine .q ?_ ?_<;>intro O)|fail
     exact⟨h2,⟨rfl,rfl,by unfold cH;rw[b];rfl,rfl,rfl,rfl,trivial⟩,YL,WC,by unfold cH;rw[b];rfl,trivial⟩
    ·rw[decide_eq_false c]at e;replace b:=b.trans (if_neg c)
     repeat' first|refine aH (hw:=t) e ?_|refine .s1 ?_|(refine .q ?_ ?_<;>intro O)|refine bU (n:=xs.length) (length_map ..) ?_|fail
     exact⟨h2,⟨rfl,rfl,by unfold cH;rw[b,map_append];rfl,rfl,rfl,rfl,trivial⟩,YL,WC,by unfold cH;rw[b,List.length_append];rfl,trivial⟩
   ·have d2:=ltF h2;obtain rfl:j=m.length:=om
    have a1:=GS (U:=qV s) (l:=l) (xs:=m) w;obtain⟨r,hr⟩:=M4 m l;rw[take_length];refine .go ?_;refine⟨N-(i+1),om,[(5, .int .i64 ((i+1:Nat):Int)),(4, .slice ((m.foldl cH l).map AV.str) (.own 0 1)),(3, .int .i64 k),(1, .ab s.C)],Z0,by simp[aM,AV.aa,aE,aF,AI.K],WC,
     i+1,m.foldl cH l,rfl,by rw[hr,List.length_append];omega,om,o,rfl,rfl⟩
  ·have d1:=ltF h1;obtain rfl:i=l.length:=om
   have a3:R=l:=by
    rw[<-hcl];cases N-l.length with
    |zero=>rw[uE]
    |succ n=>rw[uE,List.getElem?_eq_none (le_refl _)]
   rw[a3]at g h;have e:=zI l d.name om;have t:AA [.slice (l.map AV.str) (.own 0 1), .str d.name] [.slice (l.map AV.str) .no, .str d.name]:=AA.cons (AC.no (aD _)) (aD _);cases c:decide (d.name∈l)<;>rw[c]at e g h
   ·have a4:=g rfl
    repeat' first|refine aH (hw:=t) e ?_|refine .s1 ?_|(refine .q ?_ ?_<;>intro O)|fail
    exact⟨hk,Z0,by simp[aM,AV.aa,aF,AI.K,Ag.K,Ah.K,AO.K],rfl,rfl,a4⟩
   ·have ha:=h rfl;rw[ha]
    repeat' first|refine aH (hw:=t) e ?_|refine .s1 ?_|(refine .q ?_ ?_<;>intro O)|fail
    exact bW
 ·have dk:=ltF hk;obtain rfl:k=s.ah.length:=om
  rw[take_length]at x;rw[x];refine .go ?_;exact bW
end Go.Proofs.YtdodieljpcfpcaaGreatDoor
