/- Joined texts. -/
import Derived.Test.YtimbiifcnhgcoaaGreatDoorGEvK8
set_option maxRecDepth 100000
set_option maxHeartbeats 16000000
set_option linter.all false
open List (append_nil cons_append length_append length_map map_append mem_cons mem_of_find?_eq_some take_length)
open Nat (le_refl le_trans zero_le)
open Go Go.Av Go.Proofs.YtimbiifcnhgcoaaGreatDoor Go.Proofs.Tryz
variable{name:AG}{n:Int}{m:List AF}{L:List AY}{b:List MF}{t1 t2:Nat}{Q:Row->Prop}{t:Tk}
namespace Go.Proofs.YtimbiifcnhgcoaaGreatDoor
open Go Go.Av Go.Proofs.Tryz
attribute [local irreducible] AB AD AN AI Av.AU AZ
abbrev R3:=AH×Bool×Int
def gL(R:AP->R3):List AP->List AF×Int
 |[]=>([],0)
 |p::ps=>if (R p).2.2≠0 then ([],(R p).2.2) else if (gL R ps).2≠0 then ([],(gL R ps).2) else (if (R p).2.1=true then .mk p.name (R p).1::(gL R ps).1 else (gL R ps).1,0)
theorem sW(s:AJ)(wr within:Bool)(A:List AF)(dfl:AP->VE)(a:List MF):∀ps:List AP,kW s wr within A dfl a ps=gL (o8 s wr within A dfl a) ps
 |[]=>rfl
 |p::ps=>by
  have E:=sW s wr within A dfl a ps
  rw[kW,gL,E]
def d6(R:AP->R3):List AP->List AF
 |[]=>[]
 |p::ps=>(if (R p).2.1=true then [.mk p.name (R p).1] else [])++d6 R ps
theorem pS(R:AP->R3):∀a b:List AP,d6 R (a++b)=d6 R a++d6 R b
 |[],b=>rfl
 |p::a,b=>by rw[cons_append,d6,d6,pS R a b,List.append_assoc]
def sX(R:AP->R3):∀a:List AP,(d6 R a).length<=a.length
 |[]=>le_refl _
 |p::a=>by
  have:=sX R a
  rw[d6,length_append,List.length_cons]
  split<;>simp<;>omega
theorem Qw(R:AP->R3):∀l,(gL R l).2≠0->(gL R l).1=[]
 |[],_=>rfl
 |p::l,h=>by
  rw[gL]at h ⊢
  by_cases c:(R p).2.2≠0
  ·rw[if_pos c]
  ·rw[if_neg c]at h ⊢
   by_cases d:(gL R l).2≠0
   ·rw[if_pos d]
   ·rw[if_neg d]at h;exact absurd rfl h
def vD(R:AP->R3)(l:List AP)(k:Nat):Prop:=
 gL R l=if (gL R (l.drop k)).2≠0 then ([],(gL R (l.drop k)).2) else (d6 R (l.take k)++(gL R (l.drop k)).1,0)
def uW(R:AP->R3)(l:List AP):vD R l 0:=by
 unfold vD;rw[List.drop_zero,List.take_zero,d6,List.nil_append];by_cases h:(gL R l).2≠0
 ·rw[if_pos h, <-Qw R l h]
 ·rw[if_neg h];have a:(gL R l).2=0:=by simpa using h
  rw[<-a]
section
variable {R:AP->R3} {l:List AP} {k:Nat} (h:k<l.length) (hj:vD R l k)
include h hj
theorem yH(he:(R l[k]).2.2≠0):gL R l=([],(R l[k]).2.2):=by
 unfold vD at hj;have e:gL R (l.drop k)=([],(R l[k]).2.2):=by rw[List.drop_eq_getElem_cons h,gL,if_pos he]
 rw[hj,e,if_pos he]
theorem uX(he:(R l[k]).2.2=0):vD R l (k+1):=by
 unfold vD at hj ⊢;have e:gL R (l.drop k)=if (gL R (l.drop (k+1))).2≠0 then ([],(gL R (l.drop (k+1))).2) else (if (R l[k]).2.1=true then .mk l[k].name (R l[k]).1::(gL R (l.drop (k+1))).1 else (gL R (l.drop (k+1))).1,0):=by rw[List.drop_eq_getElem_cons h,gL,if_neg (by rw[he];simp)]
 rw[hj,e,List.take_succ_eq_append_getElem h,pS];generalize gL R (l.drop (k+1))=q;obtain⟨d,a⟩:=q;by_cases c:a=0
 ·subst c;cases b:(R l[k]).2.1<;>simp[d6,b]
 ·simp[c]
end
theorem yI{R:AP->R3}{l:List AP}(hj:vD R l l.length):gL R l=(d6 R l,0):=by unfold vD at hj;rw[List.drop_length,take_length,gL,if_neg Wb,append_nil]at hj;exact hj
def n9{s:AE}{a b r:AV}(d:lk? s t1=some a)(e:lk? s t2=some b)(hw:AC (.tup [a,b]) r):∃c,Av.ret (gG s [t1,t2]) = .ret c/\AC c r:=
 ⟨_,rfl,Wt⟩
def LZ(s:AJ)(wr within:Bool)(A g:List AF)(ps:List AP)(R:AP->R3)(u:ps.length<=68719476736)
  (t:∀p∈ps,AN prog 244 [mkE s wr within A,p.C, .slice (g.map AF.C) .no] (M3.C (R p))):
  AN prog 178 [mkE s wr within A, .slice (ps.map AP.C) .no, .slice (g.map AF.C) .no] (.tup [.slice ((gL R ps).1.map AF.C) .no, .int .i64 (gL R ps).2]):=by
 refine AI.plain W6 (by simp[AV.K,aA,eC,bZ,aR]) (aS [6,7] func178 ?_);refine .ae ?_;refine eX 8 true 6 rfl rfl rfl rfl rfl rfl ?_;refine bK ps.length (λk=>[(16, .int .i64 k),(15, .int .i64 ps.length),(14, .slice (ps.map AP.C) .no),(2, .slice (g.map AF.C) .no),(3, .ac (mkE s wr within A)),(8, .slice ((d6 R (ps.take k)).map AF.C) (.own 0 6))])
  (λk=>⟨[],[.len (d6 R (ps.take k)).length]⟩) (vD R ps) Z9 rfl (uW R ps) λk hk hj=> ?_
 by_cases b:k<ps.length
 ·have m:decide ((k:Int)<(ps.length:Int))=true:=by simp[b]
  have x1:=aV (f:=AP.C) b;have h:=t ps[k] (List.getElem_mem b);have i:=yH b hj;have j:=uX b hj;have e:=sX R (ps.take k);rw[List.length_take]at e;have a:d6 R (ps.take (k+1))=d6 R (ps.take k)++(if (R ps[k]).2.1=true then [.mk ps[k].name (R ps[k]).1] else []):=by rw[List.take_succ_eq_append_getElem b,pS,d6,d6,append_nil]
  generalize R ps[k]=r at h i j a;obtain⟨v,rb,l⟩:=r;unfold M3.C at h;simp only at h i j a;by_cases d:l=0
  ·subst d;have c:=j rfl;cases rb with
   |true=>
    rw[if_pos rfl]at a
    repeat' first|refine .s1 ?_|(refine .q ?_ ?_<;>intro O)|refine bW (n:=(d6 R (ps.take k)).length) rfl rfl rfl rfl rfl rfl rfl rfl (length_map ..) rfl Wa Wa rfl ?_|fail
    exact⟨b,⟨rfl,rfl,rfl,rfl,rfl,by rw[a,map_append];rfl,trivial⟩,XE,Wi,by rw[a,length_append];rfl,c⟩
   |false=>rw[if_neg Wd,append_nil]at a;refine .go ?_;exact⟨b,⟨rfl,rfl,rfl,rfl,rfl,WQ,trivial⟩,XE,Wi,WQ,c⟩
  ·have o:(l != 0)=true:=by simpa using d
   rw[i d];refine .go ?_;exact n9 rfl rfl (AC.tup (AA.cons (AC.no (aB _)) (aB _)))
 ·have m:decide ((k:Int)<(ps.length:Int))=false:=by simp;omega
  obtain rfl:k=ps.length:=om
  rw[yI hj];refine .go ?_;refine n9 rfl rfl (AC.tup (AA.cons (AC.no (AA.eq ?_)) (aB _)));rw[take_length]
def gM(wr:Bool)(A m:List AF)(ps:List AP)(x:AF):Bool:=(sB ps x.name).isNone&&(match oI m x.name with|some y=>fS wr A y|none=>false)
theorem Hw(s:AJ)(wr:Bool)(A:List AF)(dfl:AP->VE)(m:List AF)(ps:List AP):Fl wr A (mkM s wr A dfl m) ps=m.any (gM wr A m ps):=by
 unfold Fl gM;have a:∀l:List AF,(mkM s wr A dfl l).any (λf=>(sB ps f.1).isNone&&(match zZ (mkM s wr A dfl m) f.1 with|some g=>fS wr A g.2.1|none=>false))=l.any (λx=>(sB ps x.name).isNone&&(match oI m x.name with|some y=>fS wr A y|none=>false)):=by
  intro l;induction l with
  |nil=>rw[mkM];rfl
  |cons x l E=>
   obtain⟨n,v⟩:=x;rw[mkM,List.any_cons,List.any_cons,E]
   congr 1
   show ((sB ps n).isNone&&_)=((sB ps n).isNone&&_)
   congr 1
   show (match zZ (mkM s wr A dfl m) n with|some g=>fS wr A g.2.1|none=>false)=(match oI m n with|some y=>fS wr A y|none=>false);rw[uV];unfold oI;cases m.find? (λx=>x.name==n)<;>rfl
 exact a m
def L0{x:AF}(h:x∈m):∃y,oI m x.name=some y:=by
 unfold oI;cases e:m.find? (λz=>z.name==x.name) with
 |none=>have:=List.find?_eq_none.1 e x h;simp at this
 |some z=>exact⟨z.v,rfl⟩
def E3{l:List AF}{t1 t2:Tk}:AC (.agg [.int .i64 7, .int .i64 0, .str [], .slice [] t1, .slice (l.map AF.C) t2]) (AH.mk 7 0 [] [] l).C:=by unfold AH.C;rw[AH.bh,sA];exact AC.agg (AA.cons (aG _) (AA.cons (aG _) (AA.cons (aG _) (AA.cons (AC.no (aB _)) (AA.cons (AC.no (aB _)) (aB _))))))
def aBL(s:AJ)(wr within:Bool)(A:List AF)(d:Ah)(v:AH)(r:List AF×Int)(he:A.length<=68719476736)(hv:v.size<=68719476736)(a1:d.params.length<=68719476736)
  (z:AN prog 178 [mkE s wr true A, .slice (d.params.map AP.C) .no, .slice v.mv .no] (.tup [.slice (r.1.map AF.C) .no, .int .i64 r.2])):
  AN prog 335 [mkE s wr within A,d.C,v.C] (VE.C (if v.kind=7 then (if v.m.any (gM wr A v.m d.params)=true then (bP,6) else if r.2≠0 then (bP,r.2) else (.mk 7 0 [] [] r.1,0)) else (bP,7))):=by
 have a0:=v.b3;refine AI.plain (VE.K _) Zf (cE [.cell 6 43, .tmp 7] func335 ?_);by_cases l:v.kind=7
 ·have q7:(v.kind != 7)=false:=by simp[l]
  rw[if_pos l]
  repeat' first|refine AD.br (d:=4) ?_|refine AD.br (d:=5) ?_|refine .s1 ?_|(refine .q ?_ ?_<;>intro O)|fail
  refine bK v.m.length (λk=>[(23, .int .i64 k),(22, .int .i64 v.mv.length),(21, .slice v.mv .no),(3, .ptr 0 0),(4, .ac d.C),(5, .ac v.C),(6, .ptr 1 0)])
   (λ_=>⟨[.cells [.slice (s.ai.map Ah.C) .no, .str s.query, .str s.av, .bool wr, .bool within, .slice (A.map AF.C) .no], .cells fF],[]⟩) (λk=>(v.m.take k).any (gM wr A v.m d.params)=false)
   Z9 rfl (by rw[List.take_zero];rfl) λk hk hj=> ?_
  by_cases g:k<v.m.length
  ·have w:decide ((k:Int)<(v.mv.length:Int))=true:=by rw[v.bn];simp[g]
   have x1:=rX g;have e:=List.getElem_mem g;have f:=SP d.params v.m[k].name om;have o:=get v.m[k].name v.m om;rw[kC, <-v.bh]at o;obtain⟨y,t⟩:=L0 e;rw[t]at o;have i:=Ti s wr within A y om;have a:gM wr A v.m d.params v.m[k]=((sB d.params v.m[k].name).isNone&&fS wr A y):=by unfold gM;rw[t]
   have j:(v.m.take (k+1)).any (gM wr A v.m d.params)=gM wr A v.m d.params v.m[k]:=by rw[List.take_succ_eq_append_getElem g,List.any_append,hj];simp
   cases b:sB d.params v.m[k].name with
   |none=>
    have e1:qC d.params v.m[k].name=(Iv,false):=by rw[qC,b]
    rw[e1]at f;rw[b]at a;cases c:fS wr A y with
    |true=>rw[c]at i a;have h:v.m.any (gM wr A v.m d.params)=true:=List.any_eq_true.2 ⟨_,e,a⟩;rw[if_pos h];refine .go ?_;exact aI rfl bQ
    |false=>rw[c]at i a;refine .go ?_;exact⟨g,Z9,XE,W1,rfl,j.trans a⟩
   |some p=>
    have e1:qC d.params v.m[k].name=(p,true):=by rw[qC,b]
    rw[e1]at f;rw[b]at a;refine .go ?_;exact⟨g,Z9,XE,W1,rfl,j.trans a⟩
  ·have w:decide ((k:Int)<(v.mv.length:Int))=false:=by rw[v.bn];simp;omega
   obtain rfl:k=v.m.length:=om
   rw[take_length]at hj;rw[if_neg (by rw[hj];decide)];obtain⟨rl,u⟩:=r;simp only at z ⊢;by_cases n:u=0
   ·subst n;rw[if_neg Wb];refine .go ?_;exact aI rfl (AC.tup (AA.cons E3 (aB _)))
   ·have x:(u != 0)=true:=by simpa using n
    rw[if_pos n];refine .go ?_;exact aI rfl bQ
 ·have q7:(v.kind != 7)=true:=by simp[l]
  rw[if_neg l];refine .ae ?_;exact aI rfl bQ
def lN(a:AH->Bool)(F:AH->AH×Int):List AH->List AH×Int
 |[]=>([],0)
 |x::l=>if a x=true then ([],7) else if (F x).2≠0 then ([],(F x).2) else if (lN a F l).2≠0 then ([],(lN a F l).2) else ((F x).1::(lN a F l).1,0)
theorem J6(s:AJ)(wr:Bool)(A:List AF)(dfl:AP->VE)(t:Ac):∀l:List AH,mkL s wr A dfl l t=lN (λx=>gR wr t x.kind) (λx=>mkV s wr A dfl x t) l
 |[]=>by rw[mkL,lN]
 |v::l=>by rw[mkL,lN,J6 s wr A dfl t l]
def HL(a:AH->Bool)(F:AH->AH×Int)(l:List AH)(k:Nat):Prop:=
 lN a F l=if (lN a F (l.drop k)).2≠0 then ([],(lN a F (l.drop k)).2) else ((l.take k).map (λx=>(F x).1)++(lN a F (l.drop k)).1,0)
theorem Tj(a:AH->Bool)(F:AH->AH×Int):∀l,(lN a F l).2≠0->(lN a F l).1=[]
 |[],_=>rfl
 |x::l,h=>by rw[lN]at h ⊢;grind
def Ee(a:AH->Bool)(F:AH->AH×Int)(l:List AH):HL a F l 0:=by
 unfold HL;rw[List.drop_zero,List.take_zero,List.map_nil,List.nil_append];by_cases h:(lN a F l).2≠0
 ·rw[if_pos h, <-Tj a F l h]
 ·grind
section
variable {a:AH->Bool} {F:AH->AH×Int} {l:List AH} {k:Nat} (h:k<l.length) (hj:HL a F l k)
include h hj
theorem Tl(b:a l[k]=true):lN a F l=([],7):=by rw[hj,List.drop_eq_getElem_cons h,lN,if_pos b];rfl
theorem Hx(b:a l[k]=false)(he:(F l[k]).2≠0):lN a F l=([],(F l[k]).2):=by
 have e:lN a F (l.drop k)=([],(F l[k]).2):=by rw[List.drop_eq_getElem_cons h,lN,if_neg (by rw[b];decide),if_pos he]
 rw[hj,e,if_pos he]
theorem Ef(b:a l[k]=false)(he:(F l[k]).2=0):HL a F l (k+1):=by
 unfold HL at hj ⊢;have e:lN a F (l.drop k)=if (lN a F (l.drop (k+1))).2≠0 then ([],(lN a F (l.drop (k+1))).2) else ((F l[k]).1::(lN a F (l.drop (k+1))).1,0):=by rw[List.drop_eq_getElem_cons h,lN,if_neg (by rw[b];decide),if_neg (by rw[he];simp)]
 rw[hj,e,List.take_succ_eq_append_getElem h,map_append];grind
end
def Hy{a:AH->Bool}{F:AH->AH×Int}{l:List AH}(hj:HL a F l l.length):lN a F l=(l.map (λx=>(F x).1),0):=by unfold HL at hj;rw[List.drop_length,take_length,lN,if_neg Wb,append_nil]at hj;exact hj
def kH(a:AH->Bool)(F:AH->AH×Int)(l:List AH):AH×Int:=if (lN a F l).2≠0 then (bP,(lN a F l).2) else (.mk 6 0 [] (lN a F l).1 [],0)
def nD{l:List AH}{str:AG}{t1 t2:Tk}:AC (.agg [.int .i64 6, .int .i64 n, .str str, .slice (l.map AH.C) t1, .slice [] t2]) (AH.mk 6 n str l []).C:=by unfold AH.C;rw[AH.b1,wO];exact AC.agg (AA.cons (aG _) (AA.cons (aG _) (AA.cons (aG _) (AA.cons (AC.no (aB _)) (AA.cons (AC.no (aB _)) (aB _))))))
theorem pT{a n:Nat}:∀(xs ys:List AV),aE a n (xs++ys)=(aE a n xs&&aE a n ys)
 |[],ys=>by simp[aE]
 |x::xs,ys=>by rw[cons_append,aE,aE,pT xs ys,Bool.and_assoc]
theorem Ce(a n k:Nat)(l:List AH)(F:AH->AH×Int):aE a n (List.take k (List.map (AH.C∘λx=>(F x).1) l))=true:=by rw[<-List.map_map, <-List.map_take];exact Q5 a n _
def Hz{wr:Bool}{t:Ac}{k:Int}(h:gR wr t k=false):decide (0<t.an)=false\/(decide (0<t.an)=true/\(k != 6)=false)\/(decide (0<t.an)=true/\(k != 6)=true/\(k != 0)=false)\/(decide (0<t.an)=true/\(k != 6)=true/\(k != 0)=true/\wr=true/\(k==8)=true):=by grind[gR]
def aBM(s:AJ)(wr within:Bool)(A:List AF)(t:Ac)(v:AH)(F:AH->AH×Int)(p:v.kind=6)(hv:v.size<=68719476736)
  (hF:∀x∈v.l,AN prog 316 [mkE s wr within A,t.C,x.C] (VE.C (F x))):
  AN prog 332 [mkE s wr within A,t.C,v.C] (VE.C (kH (λx=>gR wr t x.kind) F v.l)):=by
 have q6:(v.kind==6)=true:=by simp[p]
 have a8:(v.kind != 6)=false:=by simp[p]
 have y:=v.bt;refine AI.plain (VE.K _) WK (cE [.cell 6 43, .tmp 7] func332 ?_);refine .ae ?_;refine lC 1 3 true 5 rfl rfl rfl rfl rfl rfl rfl rfl ?_;refine bK v.l.length (λk=>[(24, .int .i64 k),(23, .int .i64 v.lv.length),(22, .slice v.lv .no),(3, .ac (mkE s wr within A)),(4, .ac t.C),(5, .ac v.C),(6, .ptr 0 0),(9, .ptr 1 0)])
  (λk=>⟨[.cells fF, .cells [.int .i64 6, .int .i64 0, .str [], .slice (((v.l.take k).map (λx=>(F x).1)).map AH.C) (.own 0 5), .slice [] .nil]],[.len k]⟩) (HL (λx=>gR wr t x.kind) F v.l)
  Z9 rfl (Ee _ _ _) λk hk hj=> ?_
 by_cases b:k<v.l.length
 ·have w:decide ((k:Int)<(v.lv.length:Int))=true:=by rw[v.bb];simp[b]
  have x1:=lD b;have O:=hF v.l[k] (List.getElem_mem b);have jo:=Tl b hj;have z:=Hx b hj;have jn:=Ef b hj;have h:((v.l.take k).map (λx=>(F x).1)).length=k:=XL
  have c:(((v.l.take k).map (λx=>(F x).1)).map AH.C).length=k:=Zx
  have e:(v.l.take (k+1)).map (λx=>(F x).1)=(v.l.take k).map (λx=>(F x).1)++[(F v.l[k]).1]:=Xs
  cases o:gR wr t v.l[k].kind with
  |true=>
   have f:=jo o;unfold gR at o;simp only[Bool.and_eq_true,decide_eq_true_eq,Bool.not_eq_true']at o;obtain⟨o1,o2,o3,o4⟩:=o;have e1:decide (0<t.an)=true:=decide_eq_true o1;cases wr with
   |true=>
    have m:(v.l[k].kind==8)=false:=by simpa using o4
    have u:(!(v.l[k].kind==8))=true:=by rw[m];rfl
    refine .go ?_;refine aI rfl ?_;unfold kH;rw[f];exact bQ
   |false=>refine .go ?_;refine aI rfl ?_;unfold kH;rw[f];exact bQ
  |false=>
   by_cases a:(F v.l[k]).2=0
   ·have j:=jn o a;generalize hr:F v.l[k]=r at O a e;obtain⟨rv,re⟩:=r;simp only at a e;subst a;unfold VE.C at O;simp only at O;rcases Hz o with a1|⟨a1,a2⟩|⟨a1,a2,a3⟩|⟨a1,a2,a3,rfl,a4⟩
    all_goals
      try (have i:(!(v.l[k].kind==8))=false:=by (rw[a4];rfl))
      (repeat' first|refine .s1 ?_|(refine .q ?_ ?_<;>intro O)|refine bW (n:=k) rfl rfl rfl rfl rfl rfl rfl rfl c rfl Wa Wa rfl ?_|fail
       exact⟨b,Z9,XE,X6,by rw[e,map_append];rfl,j⟩)
   ·have f:=z o a;have g:((F v.l[k]).2 != 0)=true:=by simpa using a
    have d:kH (λx=>gR wr t x.kind) F v.l=(bP,(F v.l[k]).2):=by unfold kH;rw[f];simp only;rw[if_pos a]
    rw[d];generalize F v.l[k]=r at O a g;obtain⟨rv,re⟩:=r;simp only at a g;unfold VE.C at O;simp only at O;rcases Hz o with a1|⟨a1,a2⟩|⟨a1,a2,a3⟩|⟨a1,a2,a3,rfl,a4⟩
    all_goals
      try (have i:(!(v.l[k].kind==8))=false:=by (rw[a4];rfl))
      (refine .go ?_
       exact aI rfl bQ)
 ·have w:decide ((k:Int)<(v.lv.length:Int))=false:=by rw[v.bb];simp;omega
  obtain rfl:k=v.l.length:=om
  have f:=Hy hj;have d:kH (λx=>gR wr t x.kind) F v.l=(.mk 6 0 [] (v.l.map λx=>(F x).1) [],0):=by unfold kH;rw[f];rfl
  rw[d];refine .go ?_;refine aI rfl ?_;rw[take_length];exact AC.tup (AA.cons nD (aB _))
def aBN(s:AJ)(wr within:Bool)(A:List AF)(t:Ac)(v:AH)(r:AH×Int)(c:v.kind≠6)
  (hF:AN prog 316 [mkE s wr within A,t.C,v.C] (VE.C r)):
  AN prog 332 [mkE s wr within A,t.C,v.C] (VE.C (if r.2≠0 then (bP,r.2) else (.mk 6 0 [] [r.1] [],0))):=by
 have i:(v.kind==6)=false:=by simp[c]
 have g:(v.kind != 6)=true:=by simp[c]
 obtain⟨h,d⟩:=r;unfold VE.C at hF;simp only at hF ⊢;refine AI.plain (VE.K _) WK (cE [.cell 6 43, .tmp 7] func332 ?_);by_cases a:d=0
 ·subst a;rw[if_neg Wb];refine .ae ?_;refine lC 1 3 true 5 rfl rfl rfl rfl rfl rfl rfl rfl ?_;refine bK 1 (λk=>[(24, .int .i64 k),(23, .int .i64 1),(22, .slice [v.C] .full),(3, .ac (mkE s wr within A)),(4, .ac t.C),(5, .ac v.C),(6, .ptr 0 0),(9, .ptr 1 0)])
   (λk=>⟨[.cells fF, .cells [.int .i64 6, .int .i64 0, .str [], .slice ((List.replicate k h).map AH.C) (.own 0 5), .slice [] .nil]],[.len k]⟩) (λ_=>True)
   Z9 rfl trivial λk hk _=> ?_
  by_cases f:k<1
  ·obtain rfl:k=0:=om
   have x1:[v.C][0]? =some v.C:=rfl
   repeat' first|refine .s1 ?_|(refine .q ?_ ?_<;>intro O)|refine bW (n:=0) rfl rfl rfl rfl rfl rfl rfl rfl rfl rfl Wa Wa rfl ?_|fail
   exact⟨f,Z9,by simp[aM,AV.ab,aE,aF,eC],W1,rfl,trivial⟩
  ·obtain rfl:k=1:=om
   refine .go ?_;exact aI rfl (AC.tup (AA.cons nD (aB _)))
 ·have e:(d != 0)=true:=by simpa using a
  rw[if_pos a];refine .ae ?_;refine bK 1 (λk=>[(24, .int .i64 k),(23, .int .i64 1),(22, .slice [v.C] .full),(3, .ac (mkE s wr within A)),(4, .ac t.C),(5, .ac v.C),(6, .ptr 0 0),(9, .ptr 1 0)])
   (λk=>⟨[.cells fF, .cells [.int .i64 6, .int .i64 0, .str [], .slice [] .nil, .slice [] .nil]],[]⟩) (λk=>k=0)
   Z9 rfl rfl λk hk b=> ?_
  subst b;have x1:[v.C][0]? =some v.C:=rfl;refine .go ?_;exact aI rfl bQ
def NK{n:AG}{v:AH}(h:(oX n v).2≠0):(oX n v).1=bP:=by
 unfold oX at h ⊢;split
 ·rfl
 ·rename_i b;rw[if_neg b]at h;split
  ·rename_i a;rw[if_pos a]at h;exact absurd rfl h
  ·rename_i a;rw[if_neg a]at h;split
   ·rename_i c;rw[if_pos c]at h;exact absurd rfl h
   ·rfl
def NL{wr:Bool}{d:Ah}{k:Int}{str:AG}(h:(uJ wr d k str).2≠0):(uJ wr d k str).1=bP:=by
 unfold uJ at h ⊢;by_cases c:k=(if wr=true then 5 else 4)/\str∈d.ax
 ·rw[if_pos c]at h;exact absurd rfl h
 ·rw[if_neg c]
def L1{s:AJ}{wr:Bool}{A:List AF}{dfl:AP->VE}{a:List MF}{d:Ah}(h:(m9 s wr A dfl a d).2≠0):(m9 s wr A dfl a d).1=bP:=by
 unfold m9 at h ⊢;by_cases c:Fl wr A a d.params=true
 ·rw[if_pos c]
 ·rw[if_neg c]at h ⊢;dsimp only at h ⊢;by_cases q:(kW s wr true A dfl a d.params).2≠0
  ·rw[if_pos q]
  ·rw[if_neg q]at h;exact absurd rfl h
def NM(s:AJ)(wr:Bool)(A:List AF)(dfl:AP->VE)(name:AG)(v:AH)(a:List MF)(h:(mB s wr A dfl name v a).2≠0):(mB s wr A dfl name v a).1=bP:=by
 unfold mB at h ⊢;cases hf:dW s name with
 |none=>rfl
 |some d=>
  rw[hf]at h;dsimp only at h ⊢;by_cases b:d.kind=0
  ·rw[if_pos b]at h ⊢; exact NK h
  ·rw[if_neg b]at h ⊢;by_cases c:d.kind=4
   ·rw[if_pos c]at h ⊢; exact NL h
   ·rw[if_neg c]at h ⊢;by_cases e:d.kind=5
    ·rw[if_pos e]at h ⊢;by_cases f:v.kind=7
     ·rw[if_pos f]at h ⊢; exact L1 h
     ·rw[if_neg f]
    ·rw[if_neg e]
theorem rH(s:AJ)(wr:Bool)(A:List AF)(dfl:AP->VE)(v:AH)(t:Ac):mkV s wr A dfl v t=
  if wr=true/\v.kind=8 then (match oI A v.s with
   |some x=>if x.kind=0/\isT t=true then (bP,9) else (x,0)
   |none=>if isT t=true then (bP,9) else (bP,0))
  else if v.kind=0 then (if isT t=true then (bP,9) else (v,0))
  else if cG t=true/\t.an≠0 then
   (if v.kind=6 then (if (mkL s wr A dfl v.l (cB t)).2≠0 then (bP,(mkL s wr A dfl v.l (cB t)).2) else (.mk 6 0 [] (mkL s wr A dfl v.l (cB t)).1 [],0))
   else IP t.an.toNat (mB s wr A dfl t.name v (mkM s wr A dfl v.m)))
  else mB s wr A dfl t.name v (mkM s wr A dfl v.m):=by cases v;rw[mkV];rfl
theorem L3{s:AJ}{wr:Bool}{A:List AF}{dfl:AP->VE}{v:AH}{t:Ac}(h:¬(wr=true/\v.kind=8))(h0:v.kind≠0)(g:v.kind≠6)(hr:cG t=true)(j:t.an≠0)(f:cG (cB t)=true):
  mkV s wr A dfl v t=if (mkV s wr A dfl v (cB t)).2≠0 then (bP,(mkV s wr A dfl v (cB t)).2) else (.mk 6 0 [] [(mkV s wr A dfl v (cB t)).1] [],0):=by
 have k:=(fR.1 hr).2.1;have hn:t.an.toNat=(cB t).an.toNat+1:=by show t.an.toNat=(t.an-1).toNat+1;omega
 have e:mkV s wr A dfl v (cB t)=IP (cB t).an.toNat (mB s wr A dfl t.name v (mkM s wr A dfl v.m)):=by
  rw[rH,if_neg h,if_neg h0,if_neg g];by_cases c:(cB t).an≠0
  ·rw[if_pos ⟨f,c⟩];rfl
  ·rw[if_neg (λx=>c x.2)];have hz:(cB t).an.toNat=0:=by have:(cB t).an=0:=WA;rw[this];rfl
   rw[hz];show mB s wr A dfl t.name v _=_;generalize mB s wr A dfl t.name v (mkM s wr A dfl v.m)=b;obtain⟨i,d⟩:=b;unfold IP;by_cases hb:d=0
   ·subst hb;rfl
   ·simp[hb]
 rw[e,rH,if_neg h,if_neg h0,if_neg g,if_pos ⟨hr,j⟩,hn];have a:=NM s wr A dfl t.name v (mkM s wr A dfl v.m);generalize mB s wr A dfl t.name v (mkM s wr A dfl v.m)=b at a;obtain⟨i,d⟩:=b;simp only at a;unfold IP;by_cases hb:d=0
 ·subst hb;rfl
 ·have:=a hb;subst this;simp[hb]
def Tm(s:AJ)(within:Bool)(A:List AF)(dfl:AP->VE)(v:AH)(t:Ac)(e:v.kind=8)(he:A.length<=68719476736)(ht:t.name.length<=68719476736):
  AN prog 316 [mkE s true within A,t.C,v.C] (VE.C (mkV s true A dfl v t)):=by
 have a:=get v.s A om;have X:=wIs t om;rw[kC]at a;rw[rH,if_pos ⟨rfl,e⟩];have g:(v.kind==8)=true:=Z1
 refine AI.plain (VE.K _) WK (cE [.cell 6 43, .tmp 7] func316 ?_);cases b:oI A v.s with
 |none=>
  rw[b]at a;cases c:isT t with
  |true=>
   rw[c]at X;rw[if_pos rfl]
   repeat' first|refine AD.br (d:=3) ?_|refine AD.br (d:=4) ?_|refine .s1 ?_|(refine .q ?_ ?_<;>intro O)|fail
   exact aI rfl bQ
  |false=>
   rw[c]at X;rw[if_neg Wd]
   repeat' first|refine AD.br (d:=3) ?_|refine AD.br (d:=4) ?_|refine .s1 ?_|(refine .q ?_ ?_<;>intro O)|fail
   exact aO
 |some x=>
  rw[b]at a;dsimp only;by_cases x0:x.kind=0
  ·have f:(x.kind==0)=true:=by simp[x0]
   cases c:isT t with
   |true=>
    rw[c]at X;rw[if_pos (show x.kind=0/\true=true from⟨x0,rfl⟩)]
    repeat' first|refine AD.br (d:=3) ?_|refine AD.br (d:=4) ?_|refine .s1 ?_|(refine .q ?_ ?_<;>intro O)|fail
    exact aI rfl bQ
   |false=>
    rw[c]at X;rw[if_neg (show ¬(x.kind=0/\false=true) by simp)]
    repeat' first|refine AD.br (d:=3) ?_|refine AD.br (d:=4) ?_|refine .s1 ?_|(refine .q ?_ ?_<;>intro O)|fail
    exact aO
  ·have f:(x.kind==0)=false:=by simp[x0]
   rw[if_neg (λh=>x0 h.1)]
   repeat' first|refine AD.br (d:=3) ?_|refine AD.br (d:=4) ?_|refine .s1 ?_|(refine .q ?_ ?_<;>intro O)|fail
   exact aO
def Qx(s:AJ)(hs:s.size<=68719476736)(wr within:Bool)(A:List AF)(dfl:AP->VE)(v:AH)(t:Ac)(p:¬(wr=true/\v.kind=8))(hv:v.size<=68719476736)(ht:t.name.length<=68719476736)(h0 : -9223372036854775808<=v.n)(h1:v.n<=9223372036854775807)
  (g:cG t=true/\t.an≠0->v.kind≠0->AN prog 332 [mkE s wr within A,(cB t).C,v.C] (VE.C (mkV s wr A dfl v t)))
  (u:∀d,dW s t.name=some d->d.kind=5->AN prog 335 [mkE s wr within A,d.C,v.C] (VE.C (if v.kind=7 then m9 s wr A dfl (mkM s wr A dfl v.m) d else (bP,7)))):
  AN prog 316 [mkE s wr within A,t.C,v.C] (VE.C (mkV s wr A dfl v t)):=by
 have X:=wIs t om;have f:=SM t om;have hf:=Lw s t.name hs;refine AI.plain (VE.K _) WK (cE [.cell 6 43, .tmp 7] func316 ?_);have hw:wr=false\/(wr=true/\(v.kind==8)=false):=by
  cases wr with
  |false=>exact .inl rfl
  |true=>exact .inr ⟨rfl,by simpa using p⟩
 by_cases j:v.kind=0
 ·have q0:(v.kind==0)=true:=by simp[j]
  rw[rH,if_neg p,if_pos j];cases c:isT t with
  |true=>
   rw[c]at X;rw[if_pos rfl];rcases hw with rfl|⟨rfl,q8⟩
   all_goals
    refine .ae ?_;exact aI rfl bQ
  |false=>
   rw[c]at X;rw[if_neg Wd];rcases hw with rfl|⟨rfl,q8⟩
   all_goals
    refine .ae ?_;exact aO
 ·have q0:(v.kind==0)=false:=by simp[j]
  unfold fU at f;by_cases k:cG t=true/\t.an≠0
  ·rw[if_pos k]at f;have w:=g k j;generalize mkV s wr A dfl v t=r at w;obtain⟨y,x⟩:=r;unfold VE.C at w;simp only at w;rcases hw with rfl|⟨rfl,q8⟩
   all_goals
    refine .ae ?_;exact aO
  ·rw[if_neg k]at f;rw[rH,if_neg p,if_neg j,if_neg k];unfold mB;unfold bN at hf;cases b:dW s t.name with
   |none=>
    rw[b]at hf;rcases hw with rfl|⟨rfl,q8⟩
    all_goals
     refine .ae ?_;exact aI rfl bQ
   |some d=>
    rw[b]at hf;dsimp only at hf ⊢;by_cases l:d.kind=0
    ·have z:(d.kind==0)=true:=by simp[l]
     rw[if_pos l];have h:=U8 t.name v h0 h1;generalize oX t.name v=r at h;obtain⟨y,x⟩:=r;unfold VE.C at h;simp only at h;rcases hw with rfl|⟨rfl,q8⟩
     all_goals
      refine .ae ?_;exact aO
    ·have z:(d.kind==0)=false:=by simp[l]
     rw[if_neg l];by_cases o:d.kind=4
     ·have e4:(d.kind==4)=true:=by simp[o]
      rw[if_pos o];have q:d.ax.length<=9223372036854775807:=by have:=(g9 (name:=t.name) hs).2.1;unfold bN at this;rw[b]at this;simp only at this;omega
      have e:=aDN s wr within A d v q;generalize uJ wr d v.kind v.s=r at e;obtain⟨y,x⟩:=r;unfold VE.C at e;simp only at e;rcases hw with rfl|⟨rfl,q8⟩
      all_goals
       refine .ae ?_;exact aO
     ·have e4:(d.kind==4)=false:=by simp[o]
      rw[if_neg o];by_cases i:d.kind=5
      ·have e5:(d.kind==5)=true:=by simp[i]
       rw[if_pos i];have a:=u d b i;generalize (if v.kind=7 then m9 s wr A dfl (mkM s wr A dfl v.m) d else (bP,7))=r at a;obtain⟨y,x⟩:=r;unfold VE.C at a;simp only at a;rcases hw with rfl|⟨rfl,q8⟩
       all_goals
        refine .ae ?_;exact aO
      ·have e5:(d.kind==5)=false:=by simp[i]
       rw[if_neg i];rcases hw with rfl|⟨rfl,q8⟩
       all_goals
        refine .ae ?_;exact aI rfl bQ
def NN(s:AJ)(wr within:Bool)(A:List AF)(dfl:AP->VE)(v:AH)(t:Ac)(e:v.size<=68719476736)(ht:t.name.length<=68719476736)
  (d:cG t=true->AN prog 316 [mkE s wr within A,t.C,v.C] (VE.C (mkV s wr A dfl v t))):
  AN prog 292 [mkE s wr within A,t.C,v.C] (VE.C (qG s wr A dfl t v)):=by
 have hr:=Ng t om;have c:=aC6 v e;refine AI.plain (VE.K _) WK (cE [.cell 6 43, .tmp 7] func292 ?_);unfold qG;cases a:cG t with
 |false=>rw[a]at hr;rw[if_neg Wb];refine .ae ?_;exact aI rfl bQ
 |true=>
  rw[a]at hr;cases b:gW fO v with
  |false=>rw[b]at c;rw[if_neg Wb];refine .ae ?_;exact aI rfl bQ
  |true=>rw[b]at c;rw[if_pos ⟨rfl,rfl⟩];have hk:=d a;generalize mkV s wr A dfl v t=r at hk;obtain⟨g,f⟩:=r;unfold VE.C at hk;simp only at hk;refine .ae ?_;exact aO
def E4{v:AH}(h:v.ok):(-9223372036854775808<=v.n/\v.n<=9223372036854775807)/\(∀x∈v.l,x.ok)/\∀x∈v.m,x.v.ok:=by
 cases v;rw[AH.ok]at h;obtain⟨c,b,h3,h4⟩:=h;unfold Lit.wf IntKind.min IntKind.max at b;rw[Bool.and_eq_true,decide_eq_true_eq,decide_eq_true_eq]at b;refine⟨⟨b.1,b.2⟩,λx hx=> ?_,λx hx=> ?_⟩
 ·have a:∀l:List AH,lW l->∀x∈l,x.ok:=λl=>by
   induction l with
   |nil=>intro _ x hx;simp at hx
   |cons y l E=>
    intro h x hx;rw[lW]at h;rcases mem_cons.1 hx with rfl|hx
    ·exact h.1
    ·exact E h.2 x hx
  exact a _ h3 x hx
 ·have a:∀l:List AF,lX l->∀x∈l,x.v.ok:=λl=>by
   induction l with
   |nil=>intro _ x hx;simp at hx
   |cons y l E=>
    intro h x hx;obtain⟨n,v⟩:=y;rw[lX]at h;rcases mem_cons.1 hx with rfl|hx
    ·exact h.1
    ·exact E h.2 x hx
  exact a _ h4 x hx
def HD(s:AJ)(dfl:AP->VE):Prop:=∀d∈s.ai,∀p∈d.params,dT s p.t.name=true->AN prog 292 [mkE s true false [],p.t.C,p.d.C] (VE.C (dfl p))
def L4{s:AJ}{d:Ah}(h:dW s name=some d)(hk:d.kind=5):d∈s.ai:=by
 unfold dW at h;split at h
 ·cases h;exact absurd hk (show (0:Int)≠5 by decide)
 ·exact mem_of_find?_eq_some h
theorem IY{s:AJ}{d:Ah}(h:dW s name=some d)(hk:d.kind=5):dT s name=false:=by unfold dT eP bN;rw[h];simp only[Bool.true_and,decide_eq_false_iff_not];rw[hk];decide
def IZ(s:AJ)(hs:s.size<=68719476736)(wr:Bool)(A:List AF)(dfl:AP->VE)(he:A.length<=68719476736)(v:AH)(t:Ac)(within:Bool)(n:v.size<=68719476736)(l:v.ok)(ht:t.name.length<=68719476736)(O:dT s t.name=true\/HD s dfl)
  (g:∀x:AH,x.size<v.size->x.ok->∀t:Ac,t.name.length<=68719476736->(dT s t.name=true\/HD s dfl)->∀within:Bool,AN prog 316 [mkE s wr within A,t.C,x.C] (VE.C (mkV s wr A dfl x t)))
  (c:cG t=true/\t.an≠0->AN prog 316 [mkE s wr within A,(cB t).C,v.C] (VE.C (mkV s wr A dfl v (cB t)))):
  AN prog 316 [mkE s wr within A,t.C,v.C] (VE.C (mkV s wr A dfl v t)):=by
 obtain⟨⟨r0,r1⟩,o,q⟩:=E4 l;by_cases i:wr=true/\v.kind=8
 ·obtain⟨rfl,k8⟩:=i;exact Tm s within A dfl v t k8 he ht
 ·refine Qx s hs wr within A dfl v t i n ht r0 r1 (λb y=> ?_) (λd f r=> ?_)
  ·by_cases j:v.kind=6
   ·have h:=aBM s wr within A (cB t) v (λx=>mkV s wr A dfl x (cB t)) j n (λx hx=>by obtain⟨k,hk,rfl⟩:=List.getElem_of_mem hx;exact g _ (dK hk) (o _ hx) (cB t) ht O within)
    rw[rH,if_neg i,if_neg y,if_pos b,if_pos j,J6];exact h
   ·rw[L3 i y j b.1 b.2 (wP b.1 b.2)];exact aBN s wr within A (cB t) v _ j (c b)
  ·have e:HD s dfl:=O.elim (λh=>by rw[IY f r]at h;cases h) id;have w:=L4 f r;have a0:=l9 w;have z:=d.lens;have a2:=v.b3;have a:∀p∈d.params,p.t.name.length<=68719476736:=λp hp=>by have:=Ah.b2 hp;have:=p.lens;omega
   have u:=LZ s wr true A v.m d.params (o8 s wr true A dfl (mkM s wr A dfl v.m)) om (λp hp=>O6 s hs wr true A v.m dfl dfl p he om (a p hp)
    (λx hx=>by obtain⟨k,hk,rfl⟩:=List.getElem_of_mem hx;have hz:=dQ hk;exact NN s wr true A dfl _ p.t om (a p hp) (λ_=>g _ hz (q _ hx) p.t (a p hp) (.inr e) true))
    (λ_ hl=>hl.elim (λh=>W0) (λh=>e d w p hp h)))
   rw[<-sW]at u;have h:=aBL s wr within A d v _ he n om (by rw[v.bh];exact u);unfold m9;rw[Hw];exact h
def Tn(s:AJ)(hs:s.size<=68719476736)(wr:Bool)(A:List AF)(dfl:AP->VE)(he:A.length<=68719476736):∀N:Nat,N<=68719476736->∀v:AH,v.size<=N->v.ok->∀(j:Nat) (t:Ac),t.an.toNat=j->t.name.length<=68719476736->(dT s t.name=true\/HD s dfl)->∀within:Bool,
  AN prog 316 [mkE s wr within A,t.C,v.C] (VE.C (mkV s wr A dfl v t))
 |0,_,v,g=>absurd g X3
 |N+1,h,v,g=>by
  have E:=Tn s hs wr A dfl he N om
  intro b j
  induction j with
  |zero=>
   intro t hj ht O within
   exact IZ s hs wr A dfl he v t within om b ht O (λx hx d u e a w=>E x om d _ u rfl e a w) (λ⟨c,h0⟩=>absurd (fR.1 c).2.1 om)
  |succ j f=>
   intro t hj ht O within
   exact IZ s hs wr A dfl he v t within om b ht O (λx hx d u e a w=>E x om d _ u rfl e a w) (λ_=>f (cB t) (by show (t.an-1).toNat=j;omega) ht O within)
def AJ.bu(s:AJ):Prop:=∀d∈s.ai,∀p∈d.params,p.d.ok
def U9(s:AJ)(hs:s.size<=68719476736)(a:s.bu):HD s (cY s):=λd b p hp c=>by
 have e:=l9 b
 have f:=Ah.b2 hp
 have h3:=p.lens
 exact NN s true false [] IQ p.d p.t om om (λ_=>Tn s hs true [] IQ Wd 68719476736 (le_refl _) p.d om (a d b p hp) _ p.t rfl om (.inl c) false)
def I0(s:AJ)(hs:s.size<=68719476736)(a:s.bu)(wr within:Bool)(A:List AF)(he:A.length<=68719476736)(v:AH)(t:Ac)(c:v.size<=68719476736)(b:v.ok)(ht:t.name.length<=68719476736):
  AN prog 292 [mkE s wr within A,t.C,v.C] (VE.C (qG s wr A (cY s) t v)):=
 NN s wr within A (cY s) v t c ht (λ_=>Tn s hs wr A (cY s) he 68719476736 (le_refl _) v c b _ t rfl ht (.inr (U9 s hs a)) within)
def L5(s:AJ)(hs:s.size<=68719476736)(a:s.bu)(wr:Bool)(ps:List AP)(g A:List AF)(f:aC AP.size ps<=68719476736)(c:∀p∈ps,p.d.ok)(j:aC AF.size g<=68719476736)(b:∀m∈g,m.v.ok)(he:A.length<=68719476736):
  AN prog 178 [mkE s wr false A, .slice (ps.map AP.C) .no, .slice (g.map AF.C) .no] (.tup [.slice ((kW s wr false A (kX s) (mkM s wr A (cY s) g) ps).1.map AF.C) .no, .int .i64 (kW s wr false A (kX s) (mkM s wr A (cY s) g) ps).2]):=by
 have hpl:=aJ AP.au ps;have e:=aJ AF.au g;rw[sW];refine LZ s wr false A g ps _ om (λp hp=> ?_);have h:=aN (size:=AP.size) hp;have i:=p.lens;refine O6 s hs wr false A g (cY s) (kX s) p he om om (λx hx=> ?_) (λ_ _=> ?_)
 ·have h3:=aN (size:=AF.size) hx;have h4:x.size=x.name.length+2+x.v.size:=rfl;exact I0 s hs a wr false A he x.v p.t om (b x hx) om
 ·exact I0 s hs a true false [] Wd p.d p.t om (c p hp) om
def Va(s:AJ)(hs:s.size<=68719476736)(b:s.bu)(ps:List AP)(g A:List AF)(e:aC AP.size ps<=68719476736)(c:∀p∈ps,p.d.ok)(f:aC AF.size g<=68719476736)(a:∀m∈g,m.v.ok)(he:A.length<=68719476736):
  AN prog 109 [s.C, .slice (ps.map AP.C) .no, .slice (g.map AF.C) .no, .slice (A.map AF.C) .no] (.tup [.slice ((dU s ps g A).1.map AF.C) .no, .int .i64 (dU s ps g A).2]):=by have ha:=L5 s hs b true ps g A e c f a he;refine AI.plain W6 Xo (aS [8,9] func109 ?_);unfold dU;generalize kW s true false A (kX s) (mkM s true A (cY s) g) ps=r at ha;refine .ae ?_;exact n9 rfl rfl (aG _)
def gX{n:AG}{a:AG}{b c:Int}{t1 t2:Tk}:AC (.agg [.str n, .slice [] t1, .str a, .int .i64 b, .int .i64 c, .slice [] t2]) (Ag.C ⟨n,[],⟨a,b,c⟩,[]⟩):=
 AC.agg (AA.cons (aG _) (AA.cons (AC.no (aB _)) (AA.cons (aG _) (AA.cons (aG _) (AA.cons (aG _) (AA.cons (AC.no (aB _)) (aB _)))))))
def Vb(x:Ag)(name:AG):AN prog 177 [x.C, .ac (.str name)] (.bool (x.name==name)):=by refine AI.plain rfl WH (aS [3] func177 ?_);refine .ae ?_;exact bY
def I1{s:AJ}{u name:AG}(h:name=aY)(O:g8 s u=true):aK s u name=(⟨aY,[],⟨dC,0,1⟩,[]⟩,true):=by unfold aK jW;rw[if_pos ⟨h,O⟩,h]
def I2{s:AJ}{u name:AG}(h:¬(name=aY/\g8 s u=true))(hk:¬((bN s u).1.kind=1\/(bN s u).1.kind=2)):aK s u name=(uZ,false):=by unfold aK jW;rw[if_neg h,if_neg hk]
def I3{s:AJ}{u name:AG}(h:¬(name=aY/\g8 s u=true))(hk:(bN s u).1.kind=1\/(bN s u).1.kind=2):aK s u name=match Qh (bN s u).1.fields name with|none=>(uZ,false)|some f=>(f,true):=by unfold aK jW;(rw[if_neg h,if_pos hk])<;>(cases Qh (bN s u).1.fields name<;>rfl)
def Qy{s:AJ}{n:AG}(h:(bN s n).2=false):(bN s n).1.kind=0:=by
 unfold bN at h ⊢;split
 ·rename_i d a;rw[a]at h;cases h
 ·rfl
def aBO(s:AJ)(u name:AG)(hs:s.size<=68719476736):AN prog 108 [s.C, .str u, .str name] (.tup [(aK s u name).1.C, .bool (aK s u name).2]):=by
 have g:=zV s u hs;have hF:=Lw s u hs;have a1:=(g9 (name:=u) hs).2.2.2.1;have h:=MX (bN s u).1.fields 177 [.ac (.str name)] (λp=>p.name==name) om rfl (λx _=>Vb x name);have e1 := @I1 s u name;have y := @I2 s u name;have z := @I3 s u name;have e4 := @Qy s u;refine AI.plain WH Wn (cE [.cell 6 139, .tmp 7] func108 ?_);by_cases c:name=aY/\g8 s u=true
 ·obtain⟨v,w⟩:=c;rw[e1 v w];subst v;rw[w]at g;have a:(aY==[95,95,116,121,112,101,110,97,109,101])=true:=by decide
  refine .ae ?_;refine aI rfl ?_;exact AC.tup (AA.cons gX (aB _))
 ·have hn:(name==[95,95,116,121,112,101,110,97,109,101])=true->g8 s u=false:=λhx=>by
   have:name=aY:=by unfold aY;simpa using hx
   cases o:g8 s u with
   |false=>rfl
   |true=>exact absurd ⟨this,o⟩ c
  by_cases k:(bN s u).1.kind=1\/(bN s u).1.kind=2
  ·rw[z c k];have q:(bN s u).2=true:=by
    cases b:(bN s u).2 with
    |true=>rfl
    |false=>have:=e4 b;omega
   have i:((bN s u).1.kind != 1)=true->((bN s u).1.kind != 2)=false:=λhx=>by
    rcases k with k|k
    ·rw[k]at hx;cases hx
    ·rw[k];rfl
   generalize bN s u=r at *
   obtain⟨d,ok⟩:=r;dsimp only at *
   subst q;rcases eN (λp:Ag=>p.name==name) d.fields 0 with⟨m,n⟩|⟨j,hj,m,n⟩
   ·rw[m]at h;have l:Qh d.fields name=none:=n;rw[l];cases e:name==[95,95,116,121,112,101,110,97,109,101]
    ·cases a:d.kind != 1
     ·refine .ae ?_;refine aI rfl ?_;exact AC.tup (AA.cons gX (aB _))
     ·have t:=i a;refine .ae ?_;refine aI rfl ?_;exact AC.tup (AA.cons gX (aB _))
    ·rw[hn e]at g;cases a:d.kind != 1
     ·refine .ae ?_;refine aI rfl ?_;exact AC.tup (AA.cons gX (aB _))
     ·have t:=i a;refine .ae ?_;refine aI rfl ?_;exact AC.tup (AA.cons gX (aB _))
   ·rw[m]at h;have l:Qh d.fields name=some d.fields[j]:=n;rw[l];have d1:decide (((0+j:Nat):Int)<0)=false:=decide_eq_false om;have x1:(d.fields.map Ag.C)[0+j]? =some d.fields[j].C:=by rw[Nat.zero_add];exact aV (f:=Ag.C) hj
    cases e:name==[95,95,116,121,112,101,110,97,109,101]
    ·cases a:d.kind != 1
     ·refine .ae ?_;exact aO
     ·have t:=i a;refine .ae ?_;exact aO
    ·rw[hn e]at g;cases a:d.kind != 1
     ·refine .ae ?_;exact aO
     ·have t:=i a;refine .ae ?_;exact aO
  ·rw[y c k];have k1:((bN s u).1.kind != 1)=true:=by rw[bne_iff_ne];exact λx=>k (.inl x)
   have k2:((bN s u).1.kind != 2)=true:=by rw[bne_iff_ne];exact λx=>k (.inr x)
   cases e:name==[95,95,116,121,112,101,110,97,109,101]
   ·cases b:(bN s u).2<;>rw[b]at hF
    ·refine .ae ?_;refine aI rfl ?_;exact AC.tup (AA.cons gX (aB _))
    ·refine .ae ?_;refine aI rfl ?_;exact AC.tup (AA.cons gX (aB _))
   ·rw[hn e]at g;cases b:(bN s u).2<;>rw[b]at hF
    ·refine .ae ?_;refine aI rfl ?_;exact AC.tup (AA.cons gX (aB _))
    ·refine .ae ?_;refine aI rfl ?_;exact AC.tup (AA.cons gX (aB _))
def Qz(s:AJ):(qR s).length<=s.size:=by
 unfold qR;have a:∀l:List Ah,(l.flatMap λd=>d.params.map λp=>p.t.name).length<=aC Ah.size l:=λl=>by
  induction l with
  |nil=>simp
  |cons d l E=>rw[List.flatMap_cons,length_append,length_map];have:=d.lens;simp only[aC];omega
 have:=a s.ai;unfold AJ.size;omega
def rY{s:AE}{a b r:AV}(d:lk? s t1=some a)(e:lk? s t2=some b)(hw:AC (.tup [a,b]) r):∃c,Av.ret (gG s [t1,t2]) = .ret c/\AC c r:=
 ⟨_,rfl,Wt⟩
def F1(l:List AF)(ns:List AG):List AG×Bool:=match dF l ns with
 |some xs=>(xs,true)
 |none=>([],false)
def txt(l:List AF)(n:AG):AG:=(bT n l).1.s
def wA(l:List AF)(n:AG):Bool:=(bT n l).2&&((bT n l).1.kind==4&&(bT n l).1.s != [])
theorem Ez(l:List AF):∀ns:List AG,uG l ns=if ns.all (wA l)=true then some (ns.map (txt l)) else none
 |[]=>rfl
 |n::ns=>by
  rw[uG,Ez l ns,List.all_cons,List.map_cons];have e:wA l n=true↔(bT n l).2=true/\(bT n l).1.kind=4/\(bT n l).1.s≠[]:=by unfold wA;simp_all
  by_cases c:wA l n=true
  ·rw[if_pos (e.1 c),c,Bool.true_and];split<;>rfl
  ·simp_all
def F2(l:List AF)(ns:List AG)(x:l.length<=68719476736)(hn:ns≠[])(v:ns.length<=4):AN prog 180 [.slice (l.map AF.C) .no, .slice (ns.map AV.str) .no] (.tup [.slice ((F1 l ns).1.map AV.str) .no, .bool (F1 l ns).2]):=by
 refine AI.plain WY (by simp[AV.K,aA,aR,aT]) (aS [4,5] func180 ?_);unfold F1 dF;by_cases c:l.length=ns.length;case neg=>
  have e1:((l.length:Int) != (ns.length:Int))=true:=by rw[bne_iff_ne];omega
  rw[if_neg c];refine .go ?_;exact rY rfl rfl (AC.tup (AA.cons (AC.no (aB _)) (aB _)))
 have e1:((l.length:Int) != (ns.length:Int))=false:=by rw[c];simp
 rw[if_pos c,Ez];refine .go ?_;refine eX 6 false 1 rfl rfl rfl rfl rfl rfl ?_;refine bK ns.length (λk=>[(18, .int .i64 k),(17, .int .i64 ns.length),(16, .slice (ns.map AV.str) .no),(0, .slice (l.map AF.C) .no),(1, .slice (ns.map AV.str) .no),(6, .slice (((ns.take k).map (txt l)).map AV.str) (.own 0 1))])
  (λk=>⟨[],[.len k]⟩) (λk=>(ns.take k).all (wA l)=true) Z9 rfl Wb λk hk hj=> ?_
 have h:(((ns.take k).map (txt l)).map AV.str).length=k:=Wl
 by_cases e:k<ns.length
 ·have t:decide ((k:Int)<(ns.length:Int))=true:=by simp[e]
  have x1:=aV (f:=AV.str) e;have u:=get ns[k] l om;have b:=Hn (p:=wA l) e hj;have a:=Ho (p:=wA l) e;have g:((([]:List AV).length:Int)==(ns.length:Int))=false:=by rw[beq_eq_false_iff_ne];have:=List.length_pos_iff.2 hn;simp only[List.length_nil];omega
  have w:txt l ns[k]=(bT ns[k] l).1.s:=rfl;unfold wA at b a;cases r:(bT ns[k] l).2<;>rw[r]at u b a
  ·have ha:ns.all (wA l)=false:=a rfl;rw[ha];refine .go ?_;exact rY rfl rfl (AC.tup (AA.cons (AC.no (aB _)) (AA.cons (AC.eq (congrArg AV.bool g)) (aB _))))
  cases i:((bT ns[k] l).1.kind==4)<;>rw[i]at b a
  ·have ha:ns.all (wA l)=false:=a rfl;have j:((bT ns[k] l).1.kind != 4)=true:=by unfold bne;rw[i];rfl
   rw[ha];refine .go ?_;exact rY rfl rfl (AC.tup (AA.cons (AC.no (aB _)) (AA.cons (AC.eq (congrArg AV.bool g)) (aB _))))
  have j:((bT ns[k] l).1.kind != 4)=false:=by unfold bne;rw[i];rfl
  cases o:((bT ns[k] l).1.s==[])
  ·have d:((bT ns[k] l).1.s != [])=true:=by unfold bne;rw[o];rfl
   rw[d]at b;have m:=b rfl;repeat' first|refine .s1 ?_|(refine .q ?_ ?_<;>intro O)|refine bW (n:=k) rfl rfl rfl rfl rfl rfl rfl rfl h rfl Wa Wa rfl ?_|fail
   exact⟨e,⟨rfl,rfl,rfl,rfl,rfl,by rw[List.take_succ_eq_append_getElem e,map_append,map_append];rfl,trivial⟩,YY,WO,rfl,m⟩
  ·have d:((bT ns[k] l).1.s != [])=false:=by unfold bne;rw[o];rfl
   rw[d]at a;have ha:ns.all (wA l)=false:=a rfl;rw[ha];refine .go ?_;exact rY rfl rfl (AC.tup (AA.cons (AC.no (aB _)) (AA.cons (AC.eq (congrArg AV.bool g)) (aB _))))
 ·have t:decide ((k:Int)<(ns.length:Int))=false:=by simp;omega
  obtain rfl:k=ns.length:=om
  rw[take_length]at hj h;rw[take_length,hj];have g:(((ns.map (txt l)).length:Int)==(ns.length:Int))=true:=by rw[length_map];simp
  refine .go ?_;refine rY rfl rfl (AC.tup (AA.cons (AC.no (aB _)) (AA.cons (AC.eq (congrArg AV.bool ?_)) (aB _))));exact g
def aDi(f:Ag)(table a:AG)(hf:f.size<=68719476736):AN prog 181 [f.C, .str table, .str a] (.tup [(Qm f table a).1.C, .bool (Qm f table a).2]):=by
 have hp:=SP f.params a (by have:=aJ AP.au f.params;have:=f.b0;omega);refine AI.plain WU WH (cE [.cell 6 169, .tmp 7] func181 ?_);unfold qC at hp;unfold Qm;cases e:sB f.params a with
 |none=>rw[e]at hp;refine .ae ?_;exact aO
 |some p=>
  rw[e]at hp;dsimp only at hp ⊢;have h:(p.t.name != [73,68]) = !decide (p.t.name=sID):=by unfold bne sID;rw[Bool.eq_iff_iff];simp
  have i:(p.t.name != [83,116,114,105,110,103]) = !decide (p.t.name=dC):=by unfold bne dC;rw[Bool.eq_iff_iff];simp
  have g:(p.t.an != f.t.an) = !decide (p.t.an=f.t.an):=by unfold bne;rw[Bool.eq_iff_iff];simp
  by_cases c:p.t.name=sID
  ·rw[decide_eq_true c]at h;by_cases b:p.t.an=f.t.an
   ·rw[decide_eq_true b]at g;rw[if_pos ⟨.inl c,b⟩];refine .ae ?_;exact aO
   ·rw[decide_eq_false b]at g;rw[if_neg (λx=>b x.2)];refine .ae ?_;exact aO
  ·rw[decide_eq_false c]at h;by_cases d:p.t.name=dC
   ·rw[decide_eq_true d]at i;by_cases b:p.t.an=f.t.an
    ·rw[decide_eq_true b]at g;rw[if_pos ⟨.inr d,b⟩];refine .ae ?_;exact aO
    ·rw[decide_eq_false b]at g;rw[if_neg (λx=>b x.2)];refine .ae ?_;exact aO
   ·rw[decide_eq_false d]at i;rw[if_neg (λx=>x.1.elim c d)];refine .ae ?_;exact aO
def eW{x:AV}{xs:List AV}:AA [x, .slice xs t] [x, .slice xs .no]:=AA.cons (aG _) (AA.cons (AC.no (aB _)) (aB _))
def bDo(l:List AF)(g:l.length<=68719476736):AN prog 182 [.slice (l.map AF.C) .no] (.tup [(doB l).1.C, .bool (doB l).2]):=by
 have h3:=F2 l [uI,dL,nW] g Wb Wd;have d:=F2 l [uI,dL] g Wb Wd;refine AI.plain WU W6 (cE [.cell 2 169, .tmp 3] func182 ?_);unfold F1 at h3 d;unfold doB;cases f:dF l [uI,dL,nW] with
 |some xs=>
  obtain⟨a,b,c,rfl,_⟩:=pJ f;rw[f]at h3;dsimp only at h3;have x0:([a,b,c].map AV.str)[0]? =some (AV.str a):=rfl;have x1:([a,b,c].map AV.str)[1]? =some (AV.str b):=rfl;have o:([a,b,c].map AV.str)[2]? =some (AV.str c):=rfl;repeat' first|refine .br ?_|refine .s1 ?_|(refine .q ?_ ?_<;>intro O)|refine aH rfl h3 eW ?_|fail
  exact aO
 |none=>
  rw[f]at h3;dsimp only at h3;cases e:dF l [uI,dL] with
  |some xs=>
   obtain⟨a,b,rfl,_⟩:=gE e;rw[e]at d;dsimp only at d;have x0:([a,b].map AV.str)[0]? =some (AV.str a):=rfl;have x1:([a,b].map AV.str)[1]? =some (AV.str b):=rfl;have m:(a==[112,117,116])=(a==Qk):=rfl;have n:(a==[99,117,116])=(a==Ql):=rfl;have h:(a==[98,117,114,110])=(a==IN):=rfl;dsimp only;cases i:(a==Qk)<;>rw[i]at m
   ·cases j:(a==Ql)<;>rw[j]at n
    ·cases k:(a==IN)<;>rw[k]at h
     all_goals
      repeat' first|refine .br ?_|refine .s1 ?_|(refine .q ?_ ?_<;>intro O)|refine aH rfl h3 eW ?_|refine aH rfl d eW ?_|fail
      exact aI rfl (AC.tup (AA.cons (aG _) (AA.cons (AC.eq (congrArg AV.bool h)) (aB _))))
    ·repeat' first|refine .br ?_|refine .s1 ?_|(refine .q ?_ ?_<;>intro O)|refine aH rfl h3 eW ?_|refine aH rfl d eW ?_|fail
     exact aO
   ·repeat' first|refine .br ?_|refine .s1 ?_|(refine .q ?_ ?_<;>intro O)|refine aH rfl h3 eW ?_|refine aH rfl d eW ?_|fail
    exact aO
  |none=>
   rw[e]at d;dsimp only at d;repeat' first|refine .br ?_|refine .s1 ?_|(refine .q ?_ ?_<;>intro O)|refine aH rfl h3 eW ?_|refine aH rfl d eW ?_|fail
   exact aO
def aCN(f:Ag)(hf:f.size<=68719476736):AN prog 112 [f.C] (.tup [(jO f).1.C, .bool (jO f).2]):=by
 have z:=f.b0;have w:=aJ AO.au f.ar;refine AI.plain WU WH (cE [.cell 2 169, .tmp 3] func112 ?_);unfold jO
 match c:f.ar with
 |[]=>
  have e1:((f.ar.length:Int)==0)=true:=WI
  refine .ae ?_;exact aO
 |d::d2::ds=>
  have e1:((f.ar.length:Int)==0)=false:=by rw[c,beq_eq_false_iff_ne];simp;omega
  have u:decide ((1:Int)<(f.ar.length:Int))=true:=by rw[c];simp;omega
  have x1:(f.ar.map AO.C)[0]? =some d.C:=WI
  refine .ae ?_;exact aO
 |[d]=>
  have e1:((f.ar.length:Int)==0)=false:=WI
  have u:decide ((1:Int)<(f.ar.length:Int))=false:=WI
  have x1:(f.ar.map AO.C)[0]? =some d.C:=WI
  have y:d.size<=f.size:=by have:=aN (size:=AO.size) (l:=f.ar) (x:=d) (by rw[c];simp);omega
  have v:d.args.length<=d.size:=Zc
  have g:=F2 d.args [Dm] om Wb Wd;have h:=F2 d.args [dL,nW] om Wb Wd;have h3:=F2 d.args [dL,JY] om Wb Wd;have h4:=bDo d.args om;unfold F1 at g h h3;have n:(d.name==[99,111,108])=decide (d.name=nW):=by unfold nW;rw[Bool.eq_iff_iff];simp
  have o:(d.name==[108,105,110,107])=decide (d.name=Dl):=by unfold Dl;rw[Bool.eq_iff_iff];simp
  have p:(d.name==[103,101,116])=decide (d.name=JX):=by unfold JX;rw[Bool.eq_iff_iff];simp
  have r:(d.name==[100,111])=decide (d.name=sDo):=by unfold sDo;rw[Bool.eq_iff_iff];simp
  dsimp only;unfold JZ;by_cases i:d.name=nW
  ·rw[decide_eq_true i]at n;rw[if_pos i];cases e:dF d.args [Dm] with
   |none=>
    rw[e]at g
    repeat' first|refine .br ?_|refine .s1 ?_|(refine .q ?_ ?_<;>intro O)|refine aH rfl g eW ?_|fail
    exact aO
   |some xs=>
    obtain⟨a,rfl,_⟩:=uH e;rw[e]at g;dsimp only at g;have t:([a].map AV.str)[0]? =some (AV.str a):=rfl
    repeat' first|refine .br ?_|refine .s1 ?_|(refine .q ?_ ?_<;>intro O)|refine aH rfl g eW ?_|fail
    exact aO
  rw[decide_eq_false i]at n;rw[if_neg i];by_cases j:d.name=Dl
  ·rw[decide_eq_true j]at o;rw[if_pos j];cases e:dF d.args [dL,nW] with
   |none=>
    rw[e]at h
    repeat' first|refine .br ?_|refine .s1 ?_|(refine .q ?_ ?_<;>intro O)|refine aH rfl h eW ?_|fail
    exact aO
   |some xs=>
    obtain⟨a,b,rfl,_⟩:=gE e;rw[e]at h;dsimp only at h;have t:([a,b].map AV.str)[0]? =some (AV.str a):=rfl;have y1:([a,b].map AV.str)[1]? =some (AV.str b):=rfl
    repeat' first|refine .br ?_|refine .s1 ?_|(refine .q ?_ ?_<;>intro O)|refine aH rfl h eW ?_|fail
    exact aO
  rw[decide_eq_false j]at o;rw[if_neg j];by_cases k:d.name=JX
  ·rw[decide_eq_true k]at p;rw[if_pos k];cases e:dF d.args [dL,JY] with
   |none=>
    rw[e]at h3
    repeat' first|refine .br ?_|refine .s1 ?_|(refine .q ?_ ?_<;>intro O)|refine aH rfl h3 eW ?_|fail
    exact aO
   |some xs=>
    obtain⟨a,b,rfl,_⟩:=gE e;rw[e]at h3;have t:([a,b].map AV.str)[0]? =some (AV.str a):=rfl;have y1:([a,b].map AV.str)[1]? =some (AV.str b):=rfl;have h5:=aDi f a b hf;dsimp only at h3 ⊢
    repeat' first|refine .br ?_|refine .s1 ?_|(refine .q ?_ ?_<;>intro O)|refine aH rfl h3 eW ?_|fail
    exact aO
  rw[decide_eq_false k]at p;rw[if_neg k];by_cases m:d.name=sDo
  ·rw[decide_eq_true m]at r;rw[if_pos m];refine .ae ?_;exact aO
  ·rw[decide_eq_false m]at r;rw[if_neg m];refine .ae ?_;exact aO
def aCO(s:AJ)(u:AG)(f:Ag)(a:Int)(hs:s.size<=1048640):AN prog 113 [s.C, .str u,f.C, .int .i64 a] (.bool (DX s u f a)):=by
 have k:=SO s f.t.name om;have e:=zV s f.t.name om;have h3:=D6 s f.t.name hs;have h4:=gN (jG s f.t.name) s.av (by have:=sT s f.t.name hs;omega);refine AI.plain rfl XK (aS [8] func113 ?_);unfold DX m8 fY;generalize jG s f.t.name=ps at *
 cases g:(s.av != [])<;>cases h:(u==s.av)<;>cases d:g8 s f.t.name<;>rw[d]at e
 all_goals
  by_cases b:a=0
  ·subst b
   repeat' first|refine .br ?_|refine .s1 ?_|(refine .q ?_ ?_<;>intro O)|fail
   all_goals
    refine Fin.rb ?_;simp_all
  ·have i:(a==0)=false:=by simp[b]
   by_cases c:a=3
   ·subst c
    repeat' first|refine .br ?_|refine .s1 ?_|(refine .q ?_ ?_<;>intro O)|fail
    all_goals
     refine Fin.rb ?_;simp_all
   ·have j:(a==3)=false:=by simp[c]
    rw[if_neg b,if_neg c]
    repeat' first|refine .br ?_|refine .s1 ?_|(refine .q ?_ ?_<;>intro O)|fail
    all_goals
     refine Fin.rb ?_;simp_all
def bOf(s:AJ)(u:AG)(f:Ag)(hs:s.size<=1048640)(hf:f.size<=68719476736):AN prog 59 [s.C, .str u,f.C] (.tup [(ofB s u f).1.C, .bool (ofB s u f).2]):=by
 have g:=aCN f hf;have e:=aCO s u f (jO f).1.how hs;refine AI.plain WU XK (cE [.cell 6 169, .tmp 7] func59 ?_);have c:(f.name==[95,95,116,121,112,101,110,97,109,101])=decide (f.name=aY):=by unfold aY;rw[Bool.eq_iff_iff];simp
 unfold ofB;generalize jO f=r at *
 obtain⟨b,ok⟩:=r;dsimp only at *
 cases ok with
 |false=>rw[if_neg Wb];refine .ae ?_;exact aO
 |true=>
  by_cases a:f.name=aY
  ·rw[decide_eq_true a]at c;rw[if_neg Ww];refine .ae ?_;exact aO
  ·rw[decide_eq_false a]at c;cases d:DX s u f b.how<;>rw[d]at e
   ·rw[if_neg Wb];refine .ae ?_;exact aO
   ·rw[if_pos ⟨rfl,a,rfl⟩];refine .ae ?_;exact aO
def rdV:AV := .fn (.func 20) [] [.ac (.ptr 0 0), .ac (.ptr 1 0)]
def lyV:AV := .fn (.func 23) [.ptr 0 0] []
def kI:List (List Ae)->List AV
 |[]=>[]
 |[r]=>[.slice (r.map Ae.C) (.own 2 2)]
 |r::q::l => .slice (r.map Ae.C) .no::kI (q::l)
def kR(L:List AY)(n:Nat):List AV:=[Tbls.C L, .aa 1 1 n 0 n]
def evB(s:AJ)(d:AR)(A:List AF)(st:AS):List Ob:=[.cells (rE s d A rdV lyV st.F), .cells (kR st.L st.R.length)]
def evT(st:AS):List Tok:=[.len st.F.length, .aa (kI st.R), .len (eD st.R).length]
theorem H4:∀R:List (List Ae),(kI R).length=R.length
 |[]=>rfl
 |[r]=>rfl
 |r::q::l=>by rw[kI,List.length_cons,H4 (q::l)];rfl
def F3:∀R:List (List Ae),R≠[]->(kI R)[R.length-1]? =some (.slice ((eD R).map Ae.C) (.own 2 2))
 |[],h=>absurd rfl h
 |[r],_=>rfl
 |r::q::l,_=>by
  have:=F3 (q::l) Wb
  rw[kI,show (r::q::l).length-1=(q::l).length-1+1 by simp,List.getElem?_cons_succ,this];rfl
def H5(n:Ae):∀R:List (List Ae),R≠[]->n∉eD R->(kI R).set (R.length-1) (.slice ((eD R).map Ae.C++[n.C]) (.own 2 2))=kI (lK n R)
 |[],h,_=>absurd rfl h
 |[r],_,h=>by
  rw[lK,if_neg (show n∉r from h),kI,kI,map_append];rfl
 |r::q::l,_,h=>by
  have:=H5 n (q::l) Wb h
  rw[kI,lK,show (r::q::l).length-1=(q::l).length-1+1 by simp,List.set_cons_succ]
  rw[show eD (r::q::l)=eD (q::l) from rfl,this]
  have c:=lH n (q::l)
  cases hx:lK n (q::l) with
  |nil=>rw[hx]at c;simp at c
  |cons a b=>rfl
theorem H6{n:Ae}:∀ {R:List (List Ae)},n∈eD R->lK n R=R
 |[],h=>rfl
 |[r],h=>by rw[lK,if_pos (show n∈r from h)]
 |r::q::l,h=>by rw[lK,H6 (R:=q::l) h]
theorem H7(n m:Nat)(h:2<m):∀R:List (List Ae),aE n m (kI R)=true
 |[]=>rfl
 |[r]=>by simp[kI,aE,AV.ab,h]
 |r::q::l=>by
  have:=H7 n m h (q::l)
  rw[kI,aE,this]
  simp[AV.ab]
theorem mS(n m:Nat)(h:2<m)(st:AS):aL n m (evT st)=true:=by simp[evT,aL,Tok.ab,H7 n m h]
theorem cN(s:AJ)(d:AR)(A:List AF)(st:AS)(m:Nat)(h:2<m):aQ 2 m (evB s d A st)=true:=by
 have h0:0<m:=om
 have a:1<m:=om
 simp[evB,rE,kR,rdV,lyV,aQ,Ob.ab,aE,AV.ab,Tbls.C,dY,h0,a]
theorem gZ(n m:Nat):∀a b:List Tok,aL n m (a++b)=(aL n m a&&aL n m b)
 |[],b=>by simp[aL]
 |x::a,b=>by rw[cons_append,aL,aL,gZ n m a b,Bool.and_assoc]
def aCP(s:AJ)(d:AR)(A:List AF)(st:AS)(n:Ae)(h:At st)(O:st.c<=1048576)(T2:List Tok)(v:aL 2 (3+T2.length) T2=true):
  AI prog 22 [.ptr 1 0,n.C] ⟨evB s d A st,evT st++T2⟩ (λe Y=>e = .ret (cP st.L n).C/\Y=⟨evB s d A (st.read n),evT (st.read n)++T2⟩):=by
 have hf:=aDI st.L n (by have:=h.T.a8.len;omega) (λt ht=>by have:=h.T.a8.ag t ht;omega) (λt ht r hr=>by have:=h.T.a8.aq t ht r hr;omega);have a1:0<st.R.length:=List.length_pos_iff.2 h.R0;have a0:=h.RN;have z:=h.RL;have f:=HK (eD st.R) n om;have e0:((st.R.length:Int)==0)=false:=by rw[beq_eq_false_iff_ne];omega
 have k:(st.R.length:Int)-1=((st.R.length-1:Nat):Int):=om
 have hn:=H4 st.R;have x:=F3 st.R h.R0;have w:((eD st.R).map Ae.C).length=(eD st.R).length:=length_map _;have o:AA [.slice ((eD st.R).map Ae.C) (.own 2 2),n.C] [.slice ((eD st.R).map Ae.C) .no,n.C]:=AA.cons (AC.no (aB _)) (aB _);have l:(evT st++T2).length<=3+T2.length:=by rw[length_append];exact le_refl _
 refine gI (nB:=2) (mT:=3+T2.length) (cE [.cell 4 92] func22 ?_) (le_refl _) l (aF _ _ _ (Bt.K _)) (cN _ _ _ _ _ om)
  (by rw[gZ,mS _ _ om,v];rfl)
 have tk:∀a b c:Tok,(a::b::c::T2).take (3+T2.length)=a::b::c::T2:=λa b c=>List.take_of_length_le Wl
 unfold evB evT kR;by_cases g:n∈eD st.R
 ·rw[decide_eq_true g]at f;have y:st.read n=st:=by unfold AS.read;rw[H6 g]
  rw[y]
  repeat' first|refine .br ?_|refine aH rfl f o ?_|refine .s1 ?_|(refine .q ?_ ?_<;>intro O)|refine b7 rfl ?_|refine .vl ?_|refine fI (j:=st.R.length-1) rfl rfl rfl rfl rfl rfl k om (Nat.zero_add _) ?_|refine fD rfl rfl rfl hn x rfl ?_|fail
  exact⟨_,rfl,_,_,rfl,eM _ _,rfl,tk _ _ _⟩
 ·rw[decide_eq_false g]at f;have m:=H5 n st.R h.R0 g;have i:(st.read n).R=lK n st.R:=rfl;have p:eD (st.read n).R=eD st.R++[n]:=by rw[i,uO n st.R h.R0,if_neg g]
  have u:(st.read n).R.length=st.R.length:=lH n st.R;rw[p,u,i, <-m,length_append]
  repeat' first|refine .br ?_|refine aH rfl f o ?_|refine .s1 ?_|(refine .q ?_ ?_<;>intro O)|refine b7 rfl ?_|refine .vl ?_|refine fI (j:=st.R.length-1) rfl rfl rfl rfl rfl rfl k om (Nat.zero_add _) ?_|refine fD rfl rfl rfl hn x rfl ?_|refine bW (n:=(eD st.R).length) rfl rfl rfl rfl rfl rfl rfl rfl w rfl Wa Wa rfl ?_|refine bC (agg:=false) rfl rfl rfl rfl rfl hn x rfl rfl rfl rfl ?_|fail
  exact⟨_,rfl,_,_,rfl,eM _ _,rfl,tk _ _ _⟩
structure Am(s:AJ)(d:AR)(A:List AF):Prop where
 hs:s.size<=1048576
 so:s.ok
 hd:d.size<=1048576
 dk:∀f∈d.aj,∀y∈f.O,y.ok
 he:A.length<=1048576
 et:∀x∈A,Ad x.v
theorem Am.aj{s:AJ}{d:AR}{A:List AF}(h:Am s d A):d.aj.length<=1048576/\aC (λf:Af=>aC Sl.size f.O) d.aj<=d.size-3:=by have a:=aJ (size:=Af.size) (λf=>W5) d.aj;have b:aC (λf:Af=>aC Sl.size f.O) d.aj<=aC Af.size d.aj:=nC (λf=>W5) _;have h3:d.size=aC Ak.size d.ops+aC Af.size d.aj+3:=rfl;have:=h.hd;exact⟨om,om⟩
def jT{s:AJ}(e:s.ok)(u name:AG):(aK s u name).1.size<=s.size+64/\∀p∈(aK s u name).1.params,p.ok:=by
 unfold aK;cases hf:jW s u name with
 |none=>exact⟨le_trans (show Ag.size uZ<=64 by decide) om,λp hp=>Xz⟩
 |some f=>
  unfold jW at hf;split at hf
  ·cases hf;rename_i O;refine⟨?_,λp hp=>Xz⟩;show Ag.size ⟨name,[],⟨dC,0,1⟩,[]⟩<=_;rw[O.1];have:Ag.size ⟨aY,[],⟨dC,0,1⟩,[]⟩<=64:=by decide
   omega
  ·split at hf
   ·have b:=mem_of_find?_eq_some hf;unfold bN dW at b;split at b
    ·rename_i d a;split at a
     ·cases a;cases b
     ·have c:=mem_of_find?_eq_some a;have g:=l9 c;have h:f.size<=aC Ag.size d.fields:=aN (size:=Ag.size) b;have h3:aC Ag.size d.fields<=d.size:=by unfold Ah.size;omega
      exact⟨Wg,λp hp=>((e d c).1 f b).1 p hp⟩
    ·cases b
   ·cases hf
def zC(x:AV):AC x .undef:=λ_ _ _ _=>trivial
def Q9(s:AJ)(d:AR)(A:List AF)(hx:Am s d A)(st:AS)(u:AG)(h:AG)(x:Sl)(w:List Sl)(o:x.size<=1048576)(g:x.ok){t0 t1 t2:Tok}(c:aL 2 3 [t0,t1,t2]=true):
  AI prog 56 [.ptr 0 0, .str u,AT.C ⟨h,x::w⟩] ⟨evB s d A st,[t0,t1,t2]⟩
   (λe Y=>e = .ret (.tup [(aK s u x.name).1.C, .slice ((if x.name=aY then [] else (dU s (aK s u x.name).1.params x.args A).1).map AF.C) .no, .int .i64 (if x.name=aY then 0 else (dU s (aK s u x.name).1.params x.args A).2)])/\Y=⟨evB s d A st,[t0,t1,t2]⟩):=by
 have m:=x.ay;have n:=hx.hs;obtain⟨z,j⟩:=jT hx.so u x.name;have l:(aK s u x.name).1.size=(aK s u x.name).1.name.length+aC AP.size (aK s u x.name).1.params+(aK s u x.name).1.t.size+aC AO.size (aK s u x.name).1.ar+4:=rfl;have hf:=aBO s u x.name om;have ha:=Va s om (λd k p hp=>(hx.so d k).2 p hp) (aK s u x.name).1.params x.args A om (λp hp=>j p hp) om ((x.b4.1 g).2.1) (by have:=hx.he;omega);generalize aK s u x.name=fr at *
 obtain⟨f,b⟩:=fr;dsimp only at hf ha ⊢;generalize dU s f.params x.args A=i at *
 obtain⟨y,r⟩:=i;dsimp only at ha ⊢;have x0:(List.map Sl.C (x::w))[0]? =some x.C:=rfl;refine gI (nB:=2) (mT:=3) (cE [.cell 6 139, .tmp 7, .tmp 8] func56 ?_) (le_refl _) (le_refl _) (aF _ _ _ Yf) (cN _ _ _ _ _ om) c;unfold evB rE;by_cases a:x.name=aY
 ·have e1:(x.name==aY)=true:=by simp[a]
  unfold aY at e1;rw[if_pos a,if_pos a]
  repeat' first|refine AD.br (v := .agg [_,_]) ?_|refine bJ (d:=10) rfl rfl rfl rfl rfl ?_|refine b8 10 rfl (bE rfl rfl rfl rfl) ?_|refine .s1 ?_|(refine .q ?_ ?_<;>intro O)|refine b7 rfl ?_|refine bC (agg:=true) rfl rfl rfl rfl rfl rfl rfl rfl rfl rfl rfl ?_|fail
  exact⟨_,rfl,_,_,rfl,AK.a7 (AC.tup (AA.cons (aG _) (AA.cons (AC.no (aB _)) (aB _)))),rfl,rfl⟩
 ·have e1:(x.name==aY)=false:=by simp[a]
  unfold aY at e1;rw[if_neg a,if_neg a]
  repeat' first|refine AD.br (v := .agg [_,_]) ?_|refine bJ (d:=10) rfl rfl rfl rfl rfl ?_|refine b8 10 rfl (bE rfl rfl rfl rfl) ?_|refine .s1 ?_|(refine .q ?_ ?_<;>intro O)|refine b7 rfl ?_|refine bC (agg:=true) rfl rfl rfl rfl rfl rfl rfl rfl rfl rfl rfl ?_|fail
  exact⟨_,rfl,_,_,rfl,eM _ _,rfl,rfl⟩
def aCQ(s:AJ)(d:AR)(A:List AF)(hx:Am s d A)(st:AS)(u:AG)(a:AG)(x:Sl)(w:List Sl)(c:x.size<=1048576)(b:x.ok):
  AI prog 56 [.ptr 0 0, .str u,AT.C ⟨a,x::w⟩] ⟨evB s d A st,evT st⟩
   (λe Y=>e = .ret (.tup [(aK s u x.name).1.C, .slice ((if x.name=aY then [] else (dU s (aK s u x.name).1.params x.args A).1).map AF.C) .no, .int .i64 (if x.name=aY then 0 else (dU s (aK s u x.name).1.params x.args A).2)])/\Y=⟨evB s d A st,evT st⟩):=
 Q9 s d A hx st u a x w c b (mS _ _ om st)
def aCR:CD prog 79 LJ:=FD .nilFunc Wc underlying79 rfl rfl rfl rfl rfl Wc rfl Wc
def aCS:CD prog 78 LJ:=FD .nilFunc Wc underlying78 rfl rfl rfl rfl rfl Wc rfl Wc
instance layE:Lay prog:=⟨(79,LJ)::(78,LJ)::S5,⟨aCR,aCS,VK,VL,HA⟩,checked.mixed⟩
def plE(at_:AV)(u:AG)(row:Row)(w:List Sl)(p:Ab):AV := .agg [at_, .str u, .str row.key, .str row.aw, .slice (row.aq.map AF.C) .no, .bool row.broken, .slice (w.map Sl.C) .no, .slice (p.map AU.C) .no]
def jM(at_:AV)(tb key:AG)(t:Ac)(w:List Sl)(p:Ab):AV := .agg [.str tb, .str key,at_, .str t.name, .int .i64 t.an, .int .i64 t.az, .slice (w.map Sl.C) .no, .slice (p.map AU.C) .no]
def knG(k:Int)(m:Bool):AV := .agg [.int .i64 k, .bool m, .int .i64 0, .int .i64 0, .str [], .slice [] .nil, .slice [] .nil, .slice [] .nil, .slice [] .nil, .slice [] .nil]
def Jo(k:Int)(m:Bool)(v:AH)(t1 t2:Tk):AC (.agg [.int .i64 k, .bool m, .int .i64 v.kind, .int .i64 v.n, .str v.s, .slice v.lv .no, .slice v.mv .no, .slice [] t1, .slice [] .nil, .slice [] t2]) (Nd.mk k m v [] []).ak:=
 AC.agg (AA.cons (aG _) (AA.cons (aG _) (AA.cons (aG _) (AA.cons (aG _) (AA.cons (aG _) (AA.cons (aG _) (AA.cons (aG _) (AA.cons (AC.no (aB _)) (AA.cons (aG _)
  (AA.cons (AC.no (by rw[Nd.kl,rD];exact aB _)) (aB _)))))))))))
def iN(k:Int)(m:Bool)(t1 t2 a b:Tk):AC (.agg [.int .i64 k, .bool m, .int .i64 0, .int .i64 0, .str [], .slice [] a, .slice [] b, .slice [] t1, .slice [] .nil, .slice [] t2]) (Nd.mk k m bP [] []).ak:=
 AC.agg (AA.cons (aG _) (AA.cons (aG _) (AA.cons (aG _) (AA.cons (aG _) (AA.cons (aG _) (AA.cons (AC.no (AA.eq (sA _ _ _ _).symm)) (AA.cons (AC.no (AA.eq (wO _ _ _ _).symm)) (AA.cons (AC.no (aB _)) (AA.cons (aG _)
  (AA.cons (AC.no (by rw[Nd.kl,rD];exact aB _)) (aB _)))))))))))
structure Ai(l:List Sl)(c:Nat):Prop where
 sz:aC Sl.size l<=1048576 * (c+1)
 all:∀x∈l,x.ok/\x.size<=1048576
structure BQ(r:Row):Prop where
 len:r.aq.length<=1048576
 bl:∀m∈r.aq,Ad m.v
def Jp(s:AJ)(d:AR)(A:List AF)(hx:Am s d A)(st:AS)(u:AG)(row:Row)(w:List Sl)(p:Ab)(hs:Ai w st.c)(O:st.c<=4096):
  AI prog 25 [.ptr 0 0,plE .undef u row w p] ⟨evB s d A st,evT st⟩ (λe Y=>e = .ret (.slice ((bF s d A u w).map AT.C) .no)/\Y=⟨evB s d A st,evT st⟩):=by
 obtain⟨a,b⟩:=hx.aj;have h3:=hs.sz;have h4:=hx.hd;have f:=O5 s d A u w hx.hs om a hx.he;refine gI (nB:=2) (mT:=3) (aS [4] func25 ?_) (le_refl _) (le_refl _) (aF _ _ _ Xa) (cN _ _ _ _ _ om) (mS _ _ om _);repeat' first|refine .br ?_|refine .s1 ?_|(refine .q ?_ ?_<;>intro O)|refine b7 rfl ?_|fail
 exact⟨_,_,rfl,eM _ _,rfl,rfl⟩
def aDj(s:AJ)(f:Ag)(b:BO)(args:List AF)(ha:args.length<=1048576):AN prog 62 [s.C,f.C,b.C, .slice (args.map AF.C) .no] (o9 f b args).C:=by
 have O:=Nq args ha;refine AI.plain (BF.K _) (by simp[aA,AV.K,AJ.K,Ag.K,BO.K,aR]) (cE [.cell 8 176] func62 ?_);repeat' first|refine .br ?_|refine .s1 ?_|(refine .q ?_ ?_<;>intro O)|fail
 exact aO
def Bo(s:AJ)(d:AR)(A:List AF)(f:FuncId)(args:List AV)(st:AS)(k0:AV)(r:Nd×AS):Prop:=
 AI prog f args ⟨evB s d A st,evT st++[.aa [k0]]⟩ (λe Y=>e = .ret (.tup [])/\Y=⟨evB s d A r.2,evT r.2++[.aa [r.1.ak]]⟩)
def Bs(s:AJ)(d:AR)(A:List AF)(pl:Pl):Prop:=∀u row w p m st,At st->Ai w st.c->BQ row->p.length<=st.c->(pl u row w p m st).2.c<=4096->
 Bo s d A 23 [.ptr 0 0,plE (.ao 3 10 1 0 0) u row w p] st (knG 2 m) (pl u row w p m st)
def j6(st:AS)(x:AV)(hx:x.ab 2 4=true):aL 2 4 (evT st++[.aa [x]])=true:=by rw[gZ,mS _ _ om];simp[aL,Tok.ab,aE,hx]
def tN(st:AS)(p:Ab)(e:Int)(x:Tok):[Tok.len (st.F.length+1), .aa (kI st.R), .len (eD st.R).length,x]=evT (st.bad p e)++[x]:=by grind[evT,AS.bad,length_append]
def NY(name:AG):∀l:List AF,(bT name l).1=bP\/∃m∈l,(bT name l).1=m.v
 |[] => .inl rfl
 |m::l=>by
  rw[bT];split
  ·simp_all
  ·rcases NY name l with h|⟨x,hx,h⟩
   ·exact .inl h
   ·grind
def F4(h:BT L)(n:Ae):BQ (cP L n).row:=by
 unfold cP;split
 ·exact⟨Wd,λm a=>by cases a⟩
 ·rename_i t ht;have b:=mem_of_find?_eq_some ht;split
  ·exact⟨Wd,λm a=>by cases a⟩
  ·rename_i r hr;have c:=mem_of_find?_eq_some hr;unfold EZ;split
   ·exact⟨Wd,λm a=>by cases a⟩
   ·exact⟨h.a8.aq t b r c,h.bl t b r c⟩
def aDk(s:AJ)(d:AR)(A:List AF)(hx:Am s d A)(pl:Pl)(hpl:Bs s d A pl)(tb j:AG)(t:Ac)(w:List Sl)(p:Ab)(g:Bt)(hg:BQ g.row)(st:AS)(h:At st)(hs:Ai w st.c)(hp:p.length<=st.c)(a4:st.c<=4096)(O:(xB s pl w t p g st).2.c<=4096):
  Bo s d A 21 [.ptr 0 0,jM (.ao 3 10 1 0 0) tb j t w p,g.C] st (knG 0 (isT t)) (xB s pl w t p g st):=by
 have hF:=h.F;have a6:=D6 s t.name (by have:=hx.hs;omega);have a3:=sT s t.name (by have:=hx.hs;omega);have n:=gN (jG s t.name) g.row.aw om;have a5:=Nq g.row.aq hg.len;have o:∀r:Nd×AS,AI prog 21 [.ptr 0 0,jM (.ao 3 10 1 0 0) tb j t w p,g.C] ⟨evB s d A st,evT st++[.aa [knG 0 (isT t)]]⟩
   (λe a1=>∃v l,e = .ret v/\AK a1 v l (.tup [])/\l.B.take 2=evB s d A r.2/\l.T.take 4=evT r.2++[.aa [r.1.ak]])->Bo s d A 21 [.ptr 0 0,jM (.ao 3 10 1 0 0) tb j t w p,g.C] st (knG 0 (isT t)) r:=λr hr=>
  gI (nB:=2) (mT:=4) hr (le_refl _) (le_refl _) rfl (cN _ _ _ _ _ om) (j6 _ _ (aF _ _ _ (eA _)))
 refine o _ (aS [] func21 ?_);have b:∀(x:List Ob) (e:Int),_:=λ(x:List Ob) (e:Int)=>J5 s d A rdV lyV (.cells (kR st.L st.R.length)::x) (evT st++[.aa [knG 0 (isT t)]]) st.F 3 p e rfl rfl Wd om
 unfold xB at O ⊢;unfold evB;by_cases u:g.e=0;case neg=>
  have e1:(g.e != 0)=true:=by simpa using u
  rw[if_pos u]at O ⊢;repeat' first|refine AD.bx (v := .agg [_,_,_,_,_,_]) ?_|refine .br ?_|refine .s1 ?_|(refine .q ?_ ?_<;>intro O)|refine b7 rfl ?_|refine dR rfl (b _ _) (aB _) ?_|fail
  exact⟨_,_,rfl,eJ (k:=3) rfl (iN 3 (isT t) _ _ _ _) rfl,rfl,tN st p g.e (.aa [(mP (isT t)).ak])⟩
 have e1:(g.e != 0)=false:=by simp[u]
 rw[if_neg (by simp[u])]at O ⊢;by_cases y:g.is=true;case neg=>
  have m:g.is=false:=by simpa using y
  have n2:(!g.is)=true:=by rw[m];rfl
  rw[if_pos m]at O ⊢;by_cases a:isT t=true;case pos=>
   rw[if_pos a]at O ⊢;rw[a];have i:∀(x:List Ob),_:=λ(x:List Ob)=>VI s d A rdV lyV (.cells (kR st.L st.R.length)::x) (evT st++[.aa [knG 0 true]]) st.F 3 p rfl rfl Wd om
   repeat' first|refine AD.bx (v := .agg [_,_,_,_,_,_]) ?_|refine .br ?_|refine .s1 ?_|(refine .q ?_ ?_<;>intro O)|refine b7 rfl ?_|refine dR rfl (i _) (aB _) ?_|fail
   exact⟨_,_,rfl,eJ (k:=3) rfl (iN 3 true _ _ _ _) rfl,rfl,tN st p 9 (.aa [(mP true).ak])⟩
  rw[if_neg a]at O ⊢;have z:isT t=false:=by simpa using a
  rw[z];have i:∀(x:List Ob),_:=λ(x:List Ob)=>Nw s d A rdV lyV (.cells (kR st.L st.R.length)::x) (evT st++[.aa [knG 0 false]]) st.F 3 p rfl
  repeat' first|refine AD.bx (v := .agg [_,_,_,_,_,_]) ?_|refine .br ?_|refine .s1 ?_|(refine .q ?_ ?_<;>intro O)|refine b7 rfl ?_|refine dR rfl (i _) (aB _) ?_|fail
  exact⟨_,_,rfl,eJ (k:=3) rfl (iN 0 false _ _ _ _) rfl,rfl,rfl⟩
 have n2:(!g.is)=false:=by rw[y];rfl
 rw[if_neg (by rw[y];decide)]at O ⊢;by_cases a:g.row.aw∈jG s t.name;case neg=>
  rw[decide_eq_false a]at n;rw[if_pos a]at O ⊢;repeat' first|refine AD.bx (v := .agg [_,_,_,_,_,_]) ?_|refine .br ?_|refine .s1 ?_|(refine .q ?_ ?_<;>intro O)|refine b7 rfl ?_|refine dR rfl (b _ _) (aB _) ?_|fail
  exact⟨_,_,rfl,eJ (k:=3) rfl (iN 3 (isT t) _ _ _ _) rfl,rfl,tN st p 7 (.aa [(mP (isT t)).ak])⟩
 rw[decide_eq_true a]at n;rw[if_neg Ww]at O ⊢;have f:=hpl g.row.aw g.row w p (isT t) st h hs hg hp O;unfold Bo at f;generalize pl g.row.aw g.row w p (isT t) st=r at *;have a0:aE 2 4 [.ptr 0 0,plE (.ao 3 10 1 0 0) g.row.aw g.row w p]=true:=Z7
 have q0:(evT st++[Tok.aa [knG 2 (isT t)]]).length<=(evT r.2++[Tok.aa [r.1.ak]]).length:=le_refl _;have q1:aQ (evB s d A st).length (evT st++[Tok.aa [knG 2 (isT t)]]).length (evB s d A st)=true:=cN s d A st 4 om;have q2:aL (evB s d A st).length (evT st++[Tok.aa [knG 2 (isT t)]]).length (evT st++[Tok.aa [knG 2 (isT t)]])=true:=j6 st (knG 2 (isT t)) rfl;have q3:aQ (evB s d A r.2).length (evT r.2++[Tok.aa [r.1.ak]]).length (evB s d A r.2)=true:=cN s d A r.2 4 om;have q4:aL (evB s d A r.2).length (evT r.2++[Tok.aa [r.1.ak]]).length (evT r.2++[Tok.aa [r.1.ak]])=true:=j6 r.2 _ (aF _ _ _ (eA _));repeat' first|refine AD.bx (v := .agg [_,_,_,_,_,_]) ?_|refine .br ?_|refine .s1 ?_|(refine .q ?_ ?_<;>intro O)|refine b7 rfl ?_|refine fT rfl ?_|refine bC (agg:=true) rfl rfl rfl rfl rfl rfl rfl rfl rfl rfl rfl ?_|refine E1 (B0:=evB s d A st) (B1:=evB s d A r.2) rfl rfl f rfl rfl q0 q1 q2 q3 q4 a0 rfl (aB _) ?_|fail
 exact⟨_,_,rfl,eM _ _,rfl,rfl⟩
def F5{l:List Sl}{a b:Nat}(h:Ai l a)(hb:a<=b):Ai l b:=⟨le_trans h.sz om,h.all⟩
structure CO(s:AJ)(pl:BP)(B:Nat):Prop where
 same:BB s pl
 le:∀u row w st,DZ s u->BT st.L->BQ row->Ai w st.n->st.n<=400->(pl u row w st).n<=401+B
def Py{y x z b l K:Nat}(a:y<=401+(400-x) * K+b+l)(c:(400-x) * K<=(400-z) * K):y<=401+(400-z) * K+b+(l+1):=by
 generalize (400-x) * K=P at *
 generalize (400-z) * K=Q at *
 omega
mutual
theorem Ra(s:AJ)(pl:BP)(hup:BM pl)(B:Nat)(hp:CO s pl B)(tb:AG)(w:List Sl)(a:Nat)(hS:Ai w a):∀(v:AH) (t:Ac) (st:BG),Ap s t.name->rC v->BT st.L->a<=st.n->(400<=st.n->(oM s pl tb w v t st).n=st.n+1)/\(st.n<400->(oM s pl tb w v t st).n<=401+(400-st.n) * 68719476736+B)
 | .mk k n str l m,t,st,hr,d,hT,h0=>by
  rw[oM]
  split
  ·exact⟨λ_=>rfl,λh=>Wg⟩
  rename_i h4
  rw[rC]at d
  split
  ·obtain⟨b,c⟩:=Ms s pl hup B hp tb w a hS l (cB t) ⟨st.L,st.n+1⟩ hr d.2.2.2.1 hT (Nat.le_succ_of_le h0)
   refine⟨λh=>om,λh=> ?_⟩
   have:=d.2.1
   by_cases e:400<=st.n+1
   ·have:=b e;dsimp only at this;omega
   ·have:=c Wg;dsimp only at this;omega
  split
  ·exact⟨λ_=>rfl,λh=>Wg⟩
  dsimp only
  split
  ·rename_i c
   exact⟨λh=>om,λh=>by have:=hp.le (cP st.L ⟨tb,str⟩).row.aw (cP st.L ⟨tb,str⟩).row w ⟨st.L,st.n+1⟩ (hr _ c.2) hT (F4 hT _) (F5 hS (Nat.le_succ_of_le h0)) Wg;omega⟩
  ·exact⟨λ_=>rfl,λh=>Wg⟩
theorem Ms(s:AJ)(pl:BP)(hup:BM pl)(B:Nat)(hp:CO s pl B)(tb:AG)(w:List Sl)(a:Nat)(hS:Ai w a):∀(l:List AH) (t:Ac) (st:BG),Ap s t.name->JE l->BT st.L->a<=st.n->(400<=st.n->(lM s pl tb w l t st).n<=st.n+l.length)/\(st.n<400->(lM s pl tb w l t st).n<=401+(400-st.n) * 68719476736+B+l.length)
 |[],t,st,hr,d,hT,h0=>by rw[lM];exact⟨λh=>om,λh=>om⟩
 |v::l,t,st,hr,d,hT,h0=>by
  rw[lM,List.length_cons]
  rw[JE]at d
  obtain⟨b,c⟩:=Ra s pl hup B hp tb w a hS v t st hr d.1 hT h0
  have o:=yC s pl hup tb w v t st
  have k:=uQ s pl hp.same tb w v t st hr
  obtain⟨g,i⟩:=Ms s pl hup B hp tb w a hS l t (oM s pl tb w v t st) hr d.2 (by rw[k];exact hT) om
  generalize oM s pl tb w v t st=X at *
  generalize lM s pl tb w l t X=Y at *
  refine⟨λh=> ?_,λh=> ?_⟩
  ·have j:=b h
   have e:=g om
   omega
  ·have j:=c h
   by_cases h3:400<=X.n
   ·have e:=g h3;omega
   ·have e:=i om
    have m:400-X.n<=400-st.n:=om
    have f:=Nat.mul_le_mul_right 68719476736 m
    exact Py e f
end
theorem H8(s:AJ)(pl:BP)(tb:AG)(w:List Sl):∀(a:List AH) (v:AH) (t:Ac) (st:BG),lM s pl tb w (a++[v]) t st=oM s pl tb w v t (lM s pl tb w a t st)
 |[],v,t,st=>by rw[List.nil_append,lM,lM,lM]
 |x::a,v,t,st=>by rw[cons_append,lM,H8 s pl tb w a,lM]
def aDl:rC bP:=DS (by simp[bP,AH.size,iL,mR])
def Rb{x:AG}(h:x.length<=68719476736):rC (iF x):=by unfold iF;rw[rC];exact⟨h,zero_le _,zero_le _,by rw[JE];trivial,by rw[PS];trivial⟩
def Rc{k n:Int}{x:AG}{l:List AH}(hk:(Lit.int .i64 k).wf=true)(hn:(Lit.int .i64 n).wf=true)(hx:x.length<=68719476736)(d:l.length<=68719476736)(e:m.length<=68719476736)(c:∀y∈l,Ad y)(b:∀y∈m,y.name.length<=68719476736/\Ad y.v):Ad (.mk k n x l m):=
 ⟨lP.2 ⟨hx,d,e,λy a=>(c y a).1,λy a=>⟨(b y a).1,(b y a).2.1⟩⟩,by rw[AH.ok];exact⟨hk,hn,DB λy a=>(c y a).2,DC λy a=>(b y a).2.2⟩⟩
def tk0:Ad bP:=⟨aDl,YB⟩
def tkT{x:AG}(h:x.length<=68719476736):Ad (iF x):=⟨Rb h,by simp only[iF,AH.ok,lW,lX,and_true];exact⟨rfl,rfl⟩⟩
def NZ{b:AH}(h:Ad b):∀n:Nat,Ad (OS n b)
 |0=>h
 |n+1=>by
  rw[OS]
  exact Rc Wd Wd (zero_le _) Wb (zero_le _) (λx hx=>by rw[List.mem_singleton.1 hx];exact NZ h n) (λx hx=>Y1)
def N1(dfl:AP->VE)(ps:List AP):Prop:=ps.length<=68719476736/\∀p∈ps,p.name.length<=68719476736/\Ad (dfl p).1
def VW{s:AJ}{wr within:Bool}{A:List AF}{dfl:AP->VE}(hf:∀f∈b,∀t,Ad (f.2.2 t).1){p:AP}(hp:Ad (dfl p).1):Ad (o8 s wr within A dfl b p).1:=by
 unfold o8;have a:Ad (if p.has=true/\(within=false\/dT s p.t.name=true) then ((dfl p).1,true,(dfl p).2) else if isT p.t=true then (bP,false,(9:Int)) else (bP,false,0)).1:=by
  split
  ·exact hp
  ·split<;>exact tk0
 cases e:zZ b p.name with
 |none=>exact a
 |some f=>
  simp only[Option.bind_some];by_cases c:fS wr A f.2.1=true
  ·simp only[if_pos c];exact hf f (mem_of_find?_eq_some e) p.t
  ·simp only[if_neg c];exact a
def E9{s:AJ}{wr within:Bool}{A:List AF}{dfl:AP->VE}{a:List MF}(hf:∀f∈a,∀t,Ad (f.2.2 t).1):∀ {ps:List AP},(∀p∈ps,p.name.length<=68719476736/\Ad (dfl p).1)->
  (kW s wr within A dfl a ps).1.length<=ps.length/\∀x∈(kW s wr within A dfl a ps).1,x.name.length<=68719476736/\Ad x.v
 |[],_=>by rw[kW];exact⟨le_refl _,λx hx=>Y1⟩
 |p::ps,h=>by
  obtain⟨e,b⟩:=E9 (s:=s) (wr:=wr) (within:=within) (A:=A) (dfl:=dfl) hf (ps:=ps) λq d=>h q (List.mem_cons_of_mem _ d)
  have h0:=h p Wb
  have c:=VW (s:=s) (wr:=wr) (within:=within) (A:=A) hf h0.2
  have none:([]:List AF).length<=(p::ps).length/\∀x∈([]:List AF),x.name.length<=68719476736/\Ad x.v:=⟨zero_le _,λx hx=>Y1⟩
  rw[kW]
  dsimp only
  split
  ·exact none
  split
  ·exact none
  dsimp only
  split
  ·refine⟨Yi,λx hx=> ?_⟩
   rcases mem_cons.1 hx with rfl|hx
   ·exact⟨h0.1,c⟩
   ·exact b x hx
  ·exact⟨Wl,b⟩
section
variable (s:AJ) (wr:Bool) (A:List AF) (dfl:AP->VE) (he:∀x∈A,Ad x.v) (hdf:∀d∈s.ai,N1 dfl d.params)
include he hdf
theorem TJ{n:AG}{v:AH}(b:Ad v){e:List MF}(hf:∀f∈e,∀t,Ad (f.2.2 t).1):Ad (mB s wr A dfl n v e).1:=by
 have hs:=(lP.1 b.1).1;unfold mB;cases a:dW s n with
 |none=>exact tk0
 |some d=>
  dsimp only;by_cases h:d.kind=0
  ·rw[if_pos h];unfold oX;split
   ·exact tk0
   split
   ·have h0:=Ox b.2;exact tkT (le_trans (SQ v.n h0.1 h0.2) Wd)
   split
   ·exact b
   ·exact tk0
  rw[if_neg h];by_cases i:d.kind=4
  ·rw[if_pos i];unfold uJ
   (repeat' split)<;>first|exact tkT hs|exact tk0
  rw[if_neg i];by_cases c:d.kind=5
  ·rw[if_pos c];split
   ·have g:N1 dfl d.params:=by
     unfold dW at a;split at a
     ·cases a;dsimp only at c;omega
     ·exact hdf d (mem_of_find?_eq_some a)
    unfold m9;split
    ·exact tk0
    ·dsimp only;split
     ·exact tk0
     ·obtain⟨k,l⟩:=E9 (s:=s) (wr:=wr) (within:=true) (A:=A) (dfl:=dfl) hf g.2;exact Rc Wd Wd (zero_le _) (zero_le _) (le_trans k g.1) (λy j=>by cases j) l
   ·exact tk0
  ·rw[if_neg c];exact tk0
mutual
theorem TK:∀(v:AH) (t:Ac),Ad v->Ad (mkV s wr A dfl v t).1
 | .mk k n str l m,t,a=>by
  have c:=TL m (λx hx=>(a.m hx).2)
  have b:=aCT l (λx hx=>a.l hx) (cB t)
  have hb:=TJ (n:=t.name) (v := .mk k n str l m) s wr A dfl he hdf a c
  rw[mkV]
  split
  ·unfold oI
   cases e:A.find? λm=>m.name==str with
   |none=>simp only[Option.map_none];split<;>exact tk0
   |some y=>
    simp only[Option.map_some]
    split
    ·exact tk0
    ·exact he y (mem_of_find?_eq_some e)
  split
  ·split
   ·exact tk0
   ·exact a
  split
  ·split
   ·dsimp only
    split
    ·exact tk0
    ·exact Rc Wd Wd (zero_le _) (le_trans b.1 (lP.1 a.1).2.1) (zero_le _) b.2 (λy d=>by cases d)
   ·unfold IP
    split
    ·exact NZ hb _
    ·exact hb
  ·exact hb
theorem aCT:∀(l:List AH),(∀x∈l,Ad x)->∀(t:Ac),(mkL s wr A dfl l t).1.length<=l.length/\∀x∈(mkL s wr A dfl l t).1,Ad x
 |[],_,t=>by rw[mkL];exact⟨le_refl _,λx hx=>Y1⟩
 |v::l,a,t=>by
  have b:=TK v t (a v (List.mem_cons_self ..))
  obtain⟨c,h3⟩:=aCT l (λx hx=>a x (List.mem_cons_of_mem _ hx)) t
  have none:([]:List AH).length<=(v::l).length/\∀x∈([]:List AH),Ad x:=⟨zero_le _,λx hx=>Y1⟩
  rw[mkL]
  split
  ·exact none
  dsimp only
  split
  ·exact none
  split
  ·exact none
  ·refine⟨WA,λx hx=> ?_⟩
   rcases mem_cons.1 hx with rfl|hx
   ·exact b
   ·exact h3 x hx
theorem TL:∀(m:List AF),(∀x∈m,Ad x.v)->∀f∈mkM s wr A dfl m,∀t:Ac,Ad (f.2.2 t).1
 |[],_,f,hf,_=>by rw[mkM]at hf;cases hf
 | .mk nm v::m,a,f,hf,t=>by
  rw[mkM]at hf
  rcases mem_cons.1 hf with rfl|hf
  ·dsimp only
   split
   ·exact TK v t (a _ (List.mem_cons_self ..))
   ·exact tk0
  ·exact TL m (λy b=>a y (List.mem_cons_of_mem _ b)) f hf t
end
end
def Bi(p:AP):Prop:=p.name.length<=68719476736/\Ad p.d
def Jq(s:AJ)(hs:∀d∈s.ai,d.params.length<=68719476736/\∀p∈d.params,Bi p)(p:AP)(hp:Bi p):Ad (cY s p).1:=by
 unfold cY qG;split
 ·exact TK s true [] IQ (λx hx=>Y1) (λd a=>⟨(hs d a).1,λq b=>⟨((hs d a).2 q b).1,tk0⟩⟩) p.d p.t hp.2
 ·exact tk0
def Rd(s:AJ)(hs:∀d∈s.ai,d.params.length<=68719476736/\∀p∈d.params,Bi p)(p:AP)(hp:Bi p):Ad (kX s p).1:=by
 unfold kX aDG qG;split
 ·exact TK s true [] (cY s) (λx hx=>Y1) (λd a=>⟨(hs d a).1,λq b=>⟨((hs d a).2 q b).1,Jq s hs q ((hs d a).2 q b)⟩⟩) p.d p.t hp.2
 ·exact tk0
def Pz(s:AJ)(hs:∀d∈s.ai,d.params.length<=68719476736/\∀p∈d.params,Bi p)(ps:List AP)(hp:∀p∈ps,Bi p)(args A:List AF)(ha:∀x∈args,Ad x.v)(he:∀x∈A,Ad x.v):
  (dU s ps args A).1.length<=ps.length/\∀x∈(dU s ps args A).1,x.name.length<=68719476736/\Ad x.v:=
 E9 (TL s true A (cY s) he (λd a=>⟨(hs d a).1,λq b=>⟨((hs d a).2 q b).1,Jq s hs q ((hs d a).2 q b)⟩⟩) args ha) λp h=>⟨(hp p h).1,Rd s hs p (hp p h)⟩
def PB(s:AJ)(hs:∀d∈s.ai,d.params.length<=68719476736/\∀p∈d.params,Bi p)(ps:List AP)(hp:∀p∈ps,Bi p)(a:List AF)(ha:∀x∈a,Ad x.v):
  (Ha s ps a).1.length<=ps.length/\∀x∈(Ha s ps a).1,x.name.length<=68719476736/\Ad x.v:=
 E9 (TL s false [] (cY s) (λx hx=>Y1) (λd b=>⟨(hs d b).1,λq c=>⟨((hs d b).2 q c).1,Jq s hs q ((hs d b).2 q c)⟩⟩) a ha) λp h=>⟨(hp p h).1,Rd s hs p (hp p h)⟩
def EA{a:List Row}{r:Row}(h:∀x∈a,Q x)(hr:Q r):∀x∈iX a r,Q x:=by
 unfold iX;split
 ·intro x hx;rcases List.mem_append.1 hx with h1|h1
  ·exact h x h1
  ·rw[List.mem_singleton.1 h1];exact hr
 ·intro x hx;rcases List.mem_or_eq_of_mem_set hx with h1|rfl
  ·exact h x h1
  ·exact hr
def KB(a:List Row)(r:Row):(iX a r).length<=a.length+1:=by unfold iX;split<;>simp
def ED{a:List Row}{b:AG}(h:∀x∈a,Q x):∀x∈jA a b,Q x:=by
 unfold jA;split
 ·exact h
 ·intro x hx;rcases List.mem_append.1 hx with h1|h1
  ·exact h x (List.mem_of_mem_take h1)
  ·exact h x (List.mem_of_mem_drop h1)
def KC(a:List Row)(b:AG):(jA a b).length<=a.length:=by unfold jA;split<;>simp;omega
def DJ{α:Type}{l:List α}{i:Nat}{f:α->α}{x:α}(h:x∈yS l i f):x∈l\/∃y∈l,x=f y:=by
 unfold yS at h;split at h
 ·rename_i y a;rcases List.mem_or_eq_of_mem_set h with h1|rfl
  ·exact .inl h1
  ·exact .inr ⟨y,List.mem_of_getElem? a,rfl⟩
 ·exact .inl h
theorem H9{α:Type}{l:List α}{i:Nat}{f:α->α}:(yS l i f).length=l.length:=by unfold yS;split<;>simp
def F6{l:List AY}{r:Row}{t:AY}(h:t∈sN l name r):t∈l\/t.ag=[r]\/∃y∈l,t.ag=iX y.ag r:=by
 unfold sN at h;split at h
 ·rcases List.mem_append.1 h with h1|h1
  ·exact .inl h1
  ·rw[List.mem_singleton.1 h1];exact .inr (.inl rfl)
 ·rcases DJ h with h1|⟨y,hy,rfl⟩
  ·exact .inl h1
  ·exact .inr (.inr ⟨y,hy,rfl⟩)
def Re(l:List AY)(name:AG)(r:Row):(sN l name r).length<=l.length+1:=by
 unfold sN;split
 ·simp
 ·rw[H9];omega
def F7{l:List AY}{key:AG}{t:AY}(h:t∈w8 l name key):t∈l\/∃y∈l,t.ag=jA y.ag key:=by
 unfold w8 at h;split at h
 ·exact .inl h
 ·rcases DJ h with h1|⟨y,hy,rfl⟩
  ·exact .inl h1
  ·exact .inr ⟨y,hy,rfl⟩
def Rf(l:List AY)(name a:AG):(w8 l name a).length<=l.length:=by
 unfold w8;split
 ·omega
 ·rw[H9];omega
def KD{l:List AY}(h:∀t∈l,∀r∈t.ag,Q r)(h0:Q qS)(n:Ae):Q (cP l n).row:=by
 unfold cP;split
 ·exact h0
 ·rename_i t ht;split
  ·exact h0
  ·rename_i r hr;unfold EZ;split
   ·exact h0
   ·exact h t (mem_of_find?_eq_some ht) r (mem_of_find?_eq_some hr)
end Go.Proofs.YtimbiifcnhgcoaaGreatDoor
