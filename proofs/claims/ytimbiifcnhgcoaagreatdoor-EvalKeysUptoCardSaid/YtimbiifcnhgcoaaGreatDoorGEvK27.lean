import Derived.Test.YtimbiifcnhgcoaaGreatDoorGEvK26
set_option maxRecDepth 100000
set_option maxHeartbeats 16000000
set_option linter.all false
open List (all_eq_true getElem_mem length_append length_map map_nil)
open Nat (le_refl le_succ_of_le le_trans zero_le)
open Bool (and_eq_true)
open Classical (axiomOfChoice)
namespace Go.Proofs.YtimbiifcnhgcoaaGreatDoor
open Go Go.Av Go.Proofs.Tryz
attribute [local irreducible] AB AD AN AI Av.AU AZ
def UG{P:Program}{f:FuncId}{vs:List AV}{α:Type}{E:α->AV}{Q:α->Prop}(h:EC P f vs E Q):∃a,Q a/\∃u,AA vs u/\AN P f u (E a):=
 let ⟨a,u,b,c,h3⟩:=h.ex
 ⟨a,b,u,c,h3⟩
def P8(a:Ah)[h:Z a.size]:∃b,(b=true->lO a.name=true)/\∃u,AA [a.C] u/\AN prog 305 u (.bool b):=by
 cases hn:lO a.name with
 |true=>obtain⟨b,_,c⟩:=UG (inferInstance:EB 305 [a.C]);exact⟨b,λ_=>rfl,c⟩
 |false=>
  refine⟨false,(λh=>W0),_,aB _, ?_⟩;have q:=Cu a.name W2;rw[hn]at q;refine pEn 2 func305 ?_ (ha:=by simp[aA,Ah.K])
  repeat' first|refine .br ?_|refine .s1 ?_|(refine .q ?_ ?_<;>intro O)|fail
  all_goals exact bY
def P9(s:AJ)[hz:ZS s]:∃b,(b=true->∀d∈s.ai,lO d.name=true)/\AN prog 258 [s.C] (.bool b):=by
 have hs:=hz.le;have p:=s.len;have c:∀d:Ah,∃b,d∈s.ai->((b=true->lO d.name=true)/\∃u,AA [d.C] u/\AN prog 305 u (.bool b)):=λd=>by
  by_cases a:d∈s.ai
  ·have:Z d.size:=⟨by have:=l9 a;omega⟩;obtain⟨b,h⟩:=P8 d;exact⟨b,λ_=>h⟩
  ·exact⟨true,λh=>absurd h a⟩
 obtain⟨R,c⟩:=axiomOfChoice c;have l:=Cu s.query (by have:=(inferInstance:Z s.query.length).le;omega);have m:=Cu s.av (by have:=(inferInstance:Z s.av.length).le;omega);refine⟨s.ai.all R&&(lO s.query&&(s.av==[]||lO s.av)),λh d a=> ?_, ?_⟩
 ·rw[and_eq_true]at h;exact(c d a).1 (all_eq_true.1 h.1 d a)
 refine pEn 2 func258 ?_ (ha:=by simp[aA,AJ.K]);refine .ae ?_;refine mW s.ai Ah.C R (λk=>[(3, .int .i64 k),(1, .ac s.C)]) (λk n j x1 e o=> ?_) (λi ha=> ?_)
 ·obtain⟨_,u,hw,hr⟩:=c _ e;generalize s.ai[k]=d at *
  generalize R d=r at *
  repeat' first|refine .br ?_|refine aH rfl hr hw ?_|refine .s1 ?_|(refine .q ?_ ?_<;>intro O)|fail
  all_goals first|exact mV|exact nx
 ·rw[ha,Bool.true_and];generalize lO s.query=f at *
  generalize lO s.av=g at *
  repeat' first|refine .br ?_|refine .s1 ?_|(refine .q ?_ ?_<;>intro O)|fail
  all_goals first|exact mV|exact qA
def CE(s:AJ):Prop:=(∀e∈s.ai,dW s e.name=some e)/\dW s []=none
def aAn(s:AJ)[hz:ZS s]:∃b,(b=true->CE s)/\AN prog 197 [s.C] (.bool b):=by
 have hs:=hz.le;obtain⟨t,f,x⟩:=P9 s;have o:(m7 s).length<=1048576:=by unfold m7;rw[length_map];have:=s.len;omega
 have m:=MO s hs;change AN _ _ _ (.slice ((m7 s).map AV.str) .no) at m;have p:dB (m7 s)<=s.size+1:=by have:=Oj (g:=Ah.name) (size:=Ah.size) (λd=>WJ) s.ai;unfold m7;unfold AJ.size;omega
 have y:=aC2 (m7 s) om;refine⟨(m7 s).all (λn => !lG n)&&(t&&sJ (m7 s)),λh=> ?_, ?_⟩
 ·simp only[and_eq_true]at h;obtain⟨j,l,h3⟩:=h;have c:(m7 s).Nodup:=by unfold sJ OP at h3;simp only[and_eq_true,decide_eq_true_eq]at h3;exact h3.1
  have i:∀e∈s.ai,lG e.name=false:=λe he=>by have:=all_eq_true.1 j e.name (List.mem_map.2 ⟨e,he,rfl⟩);simpa using this
  refine⟨λe he=> ?_, ?_⟩
  ·unfold dW;rw[if_neg (by rw[i e he];decide)];exact Nm c he
  ·unfold dW;rw[if_neg Wd,List.find?_eq_none];intro e he hn;have a:e.name=[]:=by simpa using hn
   have:=f l e he;rw[a]at this;exact absurd this Wd
 refine pEn 2 func197 ?_ (ha:=by simp[aA,AJ.K]);refine .ae ?_;refine mW (m7 s) AV.str (λn => !lG n) (λk=>[(4, .int .i64 k),(3, .slice ((m7 s).map AV.str) .no),(1, .ac s.C)]) (λk j w x1 z l=> ?_) (λv ha=> ?_)
 ·have q:=K1 (m7 s)[k];generalize (m7 s)[k]=n at *
  generalize lG n=r at *
  repeat' first|refine .br ?_|refine .s1 ?_|(refine .q ?_ ?_<;>intro O)|fail
  all_goals first|exact mV|exact nx
 ·rw[ha,Bool.true_and];generalize sJ (m7 s)=u at *
  repeat' first|refine .br ?_|refine .s1 ?_|(refine .q ?_ ?_<;>intro O)|fail
  all_goals first|exact mV|exact qA
def aAo(s:AJ)[hz:ZS s][ho:CK s]:∃R:Int->Bool,(R 1=true->CE s)/\(R 2=true->wY s=true)/\∀n:Int,∃u,AA [s.C, .int .i64 n] u/\AN prog 129 u (.bool (R n)):=by
 have c:∀n:Int,∃b:Bool,(n=1->b=true->CE s)/\(n=2->b=true->wY s=true)/\∃u,AA [s.C, .int .i64 n] u/\AN prog 129 u (.bool b):=λn=>by
  by_cases d:n=1
  ·subst d;obtain⟨b,hb,q⟩:=aAn s;refine⟨b,λ_=>hb,λh=>om,_,aB _,pEn 4 func129 ?_ (ha:=by simp[aA,AV.K,AJ.K])⟩
   repeat' first|refine .br ?_|refine .s1 ?_|(refine .q ?_ ?_<;>intro O)|fail
   all_goals exact bY
  by_cases e:n=2
  ·subst e;have m:=wI s s.query hz.le;have g:=wI s s.av hz.le;refine⟨wY s,λh=>om,λ_ h=>h,_,aB _,pEn 4 func129 ?_ (ha:=by simp[aA,AV.K,AJ.K])⟩;unfold wY;generalize eP s s.query [1]=i at *
   generalize eP s s.av [1]=j at *
   cases k:(s.av==[])<;>cases l:(s.av != s.query)
   all_goals
    repeat' first|refine .br ?_|refine .s1 ?_|(refine .q ?_ ?_<;>intro O)|fail
    all_goals first|exact qA|exact mV
  obtain⟨b,_,f⟩:=UG (inferInstance:EB 129 [s.C, .int .i64 n]);exact⟨b,λh=>absurd h d,λh=>absurd h e,f⟩
 obtain⟨R,a⟩:=axiomOfChoice c;exact⟨R,(a 1).1 rfl,(a 2).2.1 rfl,λn=>(a n).2.2⟩
def qE(R:Int->Bool):Nat->Int->Int
 |0,_=>0
 |k+1,n=>if R n=true then qE R k (n+1) else n
def uE(R:Int->Bool):∀(k:Nat) (n:Int),0<n->qE R k n=0->∀j:Nat,j<k->R (n+j)=true
 |0,n,_,_,j,hj=>by omega
 |k+1,n,hn,h,j,hj=>by
  rw[qE]at h
  split at h
  ·rename_i hr
   cases j with
   |zero=>simpa using hr
   |succ j=>have:=uE R k (n+1) om h j om;rwa [show n+1+(j:Int)=n+((j+1:Nat):Int) by omega]at this
  ·omega
def OK(s:AJ)[hz:ZS s][ho:CK s]:∃x:Int,(x=0->CE s/\wY s=true)/\AN prog 83 [s.C] (.int .i64 x):=by
 obtain⟨R,f,g,d⟩:=aAo s;refine⟨qE R 9 1,λh=>⟨f (uE R 9 1 om h 0 om),g (uE R 9 1 om h 1 om)⟩,pEn 2 func83 ?_ (ha:=by simp[aA,AJ.K])⟩;generalize e:qE R 9 1=X;refine .ae ?_;refine bK 9 (λk=>[(3, .int .i64 ((k:Int)+1)),(1, .ac s.C)]) (λ_=>⟨[],[]⟩) (λk=>X=qE R (9-k) ((k:Int)+1)) Z9 rfl e.symm λk hk hj=> ?_
 by_cases h3:k<9
 ·have b:decide ((k:Int)+1<=9)=true:=decide_eq_true om;obtain⟨u,hw,h4⟩:=d ((k:Int)+1);have c:9-k=(9-(k+1))+1:=om
  rw[c,qE]at hj;generalize R ((k:Int)+1)=r at *
  repeat' first|refine .br ?_|refine aH rfl h4 hw ?_|refine .s1 ?_|(refine .q ?_ ?_<;>intro O)|fail
  ·refine aP rfl (AC.eq (congrArg (AV.int .i64) ?_));rw[hj,if_neg Xu]
  ·exact⟨h3,Z9,by simp[aM,AV.ab,aF,AJ.K],rfl,rfl,by rw[hj,if_pos Xu];rfl⟩
 ·have a:k=9:=om
  subst a;have b:decide (((9:Nat):Int)+1<=9)=false:=Wd
  rw[show 9-9=0 from rfl,qE]at hj;rw[hj]
  repeat' first|refine .br ?_|refine .s1 ?_|(refine .q ?_ ?_<;>intro O)|fail
  exact qA
def UH(s:AJ)[hz:ZS s][ho:CK s]:∃b,(b=true->BH s)/\AN prog 37 [s.C] (.bool b):=by
 have hs:=hz.le;have hl:=s.len;obtain⟨c,m,O⟩:=OK s;refine⟨decide (c=0)&&s.ai.all (λd=>d.kind != 1||d.fields.all λf=>(ofB s d.name f).2),λh=> ?_,pEn 2 func37 ?_ (ha:=by simp[aA,AJ.K])⟩
 ·rw[and_eq_true,decide_eq_true_eq]at h;obtain⟨l,g⟩:=m h.1;refine⟨l.1,l.2,g,λd v hk f hf=> ?_⟩;have:=all_eq_true.1 h.2 d v;rw[hk]at this;exact all_eq_true.1 (by simpa using this) f hf
 by_cases a:c=0
 case neg=>
  have e:(c != 0)=true:=Ww
  rw[decide_eq_false a];refine .ae ?_;exact bY
 have e:(c != 0)=false:=Ww
 rw[decide_eq_true a,Bool.true_and];refine .ae ?_;refine mW s.ai Ah.C (λd=>d.kind != 1||d.fields.all λf=>(ofB s d.name f).2) (λk=>[(3, .int .i64 k),(1, .ac s.C)]) (λk l d1 x1 hm g=> ?_) (λp ha=> ?_)
 case refine_2=>rw[ha];refine .go ?_;exact bY
 have y:=l9 hm;generalize s.ai[k]=d at *
 have w:=d.lens;have x:=d.b0;cases o:(d.kind==1)
 ·have i:(d.kind != 1)=true:=by unfold bne;rw[o];rfl
  refine .ae ?_;refine bK 0 (λj=>[(4, .int .i64 j),(3, .int .i64 k),(1, .ac s.C)]) (λ_=>⟨[],[]⟩) (λ_=>True) Z9 rfl trivial λj hj _=> ?_
  obtain rfl:j=0:=by omega
  cases t:decide (((0:Nat):Int)<(d.fields.length:Int))
  all_goals
   refine .go ?_;exact nx Ya
 have i:(d.kind != 1)=false:=by unfold bne;rw[o];rfl
 rw[i,Bool.false_or]at g;refine .ae ?_;refine mW d.fields Ag.C (λf=>(ofB s d.name f).2) (λj=>[(4, .int .i64 j),(3, .int .i64 k),(1, .ac s.C)]) (λj g1 t x2 n u=> ?_) (λp ha=> ?_)
 ·have z:=aN (size:=Ag.size) n;generalize d.fields[j]=f at *
  have q:=aC4 s d.name f hs om;generalize ofB s d.name f=r at *
  obtain⟨b,ok⟩:=r;cases ok with
  |false=>rw[g (u rfl)];refine .go ?_;exact bY
  |true=>refine .go ?_;exact nx rfl
 ·refine .go ?_;exact nx (by rw[i,ha];rfl)
def aAp(s:AJ)[hz:ZS s][ho:CK s](d:AR)[hd:Z d.size][hf:CU d]:∃b,(b=true->BH s/\oU d=false)/\AN prog 13 [s.C,d.C] (.bool b):=by
 obtain⟨m,e,w⟩:=UH s;obtain⟨c,_,y⟩:=OK s;obtain⟨q,_,u3,l,j⟩:=UG (inferInstance:EB 85 [d.C]);obtain⟨R,i⟩:=axiomOfChoice λn:Int=>UG (UF s d n)
 have z:AN prog 38 [s.C,d.C] (.int .i64 (if (c != 0 || !q)=true then 25 else qE R 24 1)):=by
  refine pEn 4 func38 ?_;by_cases a:(c != 0 || !q)=true
  ·rw[if_pos a]
   repeat' first|refine .br ?_|refine aH rfl j l ?_|refine .s1 ?_|(refine .q ?_ ?_<;>intro O)|fail
   all_goals first|exact qA|(exfalso;simp_all;done)|fail
  rw[if_neg a];generalize v:qE R 24 1=X
  repeat' first|refine .br ?_|refine aH rfl j l ?_|refine .s1 ?_|(refine .q ?_ ?_<;>intro O)|fail
  all_goals try first|(exfalso;simp_all;done)|fail
  refine bK 24 (λk=>[(5, .int .i64 ((k:Int)+1)),(2, .ac s.C),(3, .ac d.C)]) (λ_=>_) (λk=>X=qE R (24-k) ((k:Int)+1)) Z9 rfl v.symm λk hk hj=> ?_
  by_cases h3:k<24
  ·have o:decide ((k:Int)+1<=24)=true:=decide_eq_true om;obtain⟨_,u,hw,h4⟩:=i ((k:Int)+1);have p:24-k=(24-(k+1))+1:=om
   rw[p,qE]at hj;generalize R ((k:Int)+1)=r at *
   repeat' first|refine .br ?_|refine aH rfl h4 hw ?_|refine .s1 ?_|(refine .q ?_ ?_<;>intro O)|fail
   ·refine aP rfl (AC.eq (congrArg (AV.int .i64) ?_));rw[hj,if_neg Xu]
   ·exact⟨h3,Z9,by simp[aM,AV.ab,aF,AJ.K,AR.K],rfl,rfl,by rw[hj,if_pos Xu];rfl⟩
  ·have f:k=24:=om
   subst f;have o:decide (((24:Nat):Int)+1<=24)=false:=Wd
   rw[show 24-24=0 from rfl,qE]at hj;rw[hj]
   repeat' first|refine .br ?_|refine .s1 ?_|(refine .q ?_ ?_<;>intro O)|fail
   exact qA
 refine⟨m&&((if (c != 0 || !q)=true then 25 else qE R 24 1)==(0:Int)),λh=> ?_,pEn 4 func13 ?_⟩
 ·rw[and_eq_true,beq_iff_eq]at h;refine⟨e h.1, ?_⟩;have g:=h.2;split at g
  ·omega
  ·have t:=uE R 24 1 om g 6 om;have:=(i (1+((6:Nat):Int))).1 rfl;rw[t]at this;simpa using this.symm
 generalize (if (c != 0 || !q)=true then 25 else qE R 24 1)=x at *
 repeat' first|refine .br ?_|refine .s1 ?_|(refine .q ?_ ?_<;>intro O)|fail
 all_goals exact qA
structure BS where
 s:AJ
 d:AR
 at_:Int
 vars:List AF
 L:List AY
def BS.C(c:BS):AV := .agg [.slice (c.s.ai.map Ah.C) .no, .str c.s.query, .str c.s.av, .slice (c.d.ops.map Ak.C) .no, .slice (c.d.aj.map Af.C) .no, .int .i64 c.at_, .slice (c.vars.map AF.C) .no,Tbls.C c.L]
theorem BS.K(c:BS):c.C.K=true:=by simp[BS.C,AV.K,aA,iS,kD,uR,aR,Tbls.K]
structure Ba(c:BS):Prop where
 hs:c.s.size<=1048576
 so:c.s.ok
 hd:c.d.size<=1048576
 dk:c.d.ok
 hv:aC AF.size c.vars<=1048576
 vo:∀m∈c.vars,m.v.ok
 hl:aC AY.size c.L<=1048576
 lo:∀t∈c.L,t.ok
structure OpOk(c:BS)(o:Ak)(env:List AF):Prop where
 mem:o∈c.d.ops
 served:BH c.s
 loops:oU c.d=false
 bj:Am c.s c.d env
 O:Ai o.O 0
 cnt:zR c.s c.d o env c.L<=400
 b8:BV 4000 c.L
 cr:rG c.s=true
def Sy:Ak:=⟨0,[],[],[],[]⟩
theorem Ba.aq{c:BS}(h:Ba c):∀t∈c.L,∀r∈t.ag,Bv r/\aC AF.size r.aq<=1048576:=λt ht r hr=>by
 have hz:=Sc h.hl t ht r hr
 refine⟨λm a=> ?_,hz⟩
 have b:=aN (size:=AF.size) a
 have d:m.size=m.name.length+2+m.v.size:=rfl
 exact tR om (h.lo t ht r hr m a)
theorem Ba.bj{c:BS}(h:Ba c){o:Ak}(k:o∈c.d.ops):Am c.s c.d (Ha c.s o.vars c.vars).1/\Ai o.O 0/\(∀p∈o.vars,p.d.ok)/\aC AP.size o.vars<=1048576:=by
 have u:=h.hd;have hs:=h.hs;have l:=aN (size:=Ak.size) k;have r:c.d.size=aC Ak.size c.d.ops+aC Af.size c.d.aj+3:=rfl;have h3:o.size=o.name.length+aC AP.size o.vars+aC AO.size o.ar+aC Sl.size o.O+6:=rfl;have a:=h.dk.1 o k;have b:∀e∈c.s.ai,e.params.length<=68719476736/\∀p∈e.params,Bi p:=λe he=>by
  have l:=l9 he;have h3:=aJ AP.au e.params;have h4:aC AP.size e.params<=e.size:=WJ
  refine⟨om,λp hp=> ?_⟩;have g:=aN (size:=AP.size) hp;have i:=p.lens;exact⟨om,tR om ((h.so e he).2 p hp)⟩
 have n:=aJ AP.au o.vars;obtain⟨w,q⟩:=PB c.s b o.vars (λp hp=>by
  have g:=aN (size:=AP.size) hp;have i:=p.lens;exact⟨om,tR om (a.1 p hp)⟩) c.vars (λm j=>by
  have g:=aN (size:=AF.size) j;have i:m.size=m.name.length+2+m.v.size:=rfl;have t:=h.hv;exact tR om (h.vo m j))
 refine⟨⟨h.hs,h.so,h.hd,λf hf=>(h.dk.2 f hf).2,om,λx hx=>(q x hx).2⟩,⟨om,λx hx=>⟨a.2.2 x hx, ?_⟩⟩,a.1,om⟩;have:=aN (size:=Sl.size) hx;omega
def kOp(c:BS)(h:Ba c):∃r:Ak×List AF×Bool,(r.2.2=true->OpOk c r.1 r.2.1)/\AN prog 4 [c.C] (.tup [r.1.C, .slice (r.2.1.map AF.C) .no, .bool r.2.2]):=by
 have a1:=h.aq;have v:=λo ho=>Ba.bj h (o:=o) ho
 obtain⟨hs,so,hd,dk,hv,vo,hl,lo⟩:=h;obtain⟨s,d,at_,f,L⟩:=c;dsimp only at hs so hd dk hv vo hl lo a1 v;have g:=BS.K ⟨s,d,at_,f,L⟩;unfold BS.C at g ⊢;dsimp only at g ⊢;have q1:=Sf s d hs hd;have q2:=Sb L (by have:=Sd L;omega) (λt ht r hr=>(a1 t ht r hr).2);have q3:=Cb (.mk 0 0 [] [] f) WR;have ew:=x6 (m:=f);have wn:AC (.tup [.agg [.int .i64 0, .str [], .slice [] .nil, .slice [] .nil, .slice [] .nil], .slice [] .nil, .bool false]) (.tup [Sy.C, .slice (([]:List AF).map AF.C) .no, .bool false]):=
  AC.tup (AA.cons (AC.agg (AA.cons (aG _) (AA.cons (aG _) (AA.cons (AC.no (aB _)) (AA.cons (AC.no (aB _)) (AA.cons (AC.no (aB _)) (aB _))))))) (AA.cons (AC.no (aB _)) (aB _)))
 have a0:(AV.tup [Sy.C, .slice (([]:List AF).map AF.C) .no, .bool false]).K=true:=by simp[AV.K,aA,Ak.K]
 generalize be:szV (.mk 0 0 [] [] f)=z at *
 cases h1:sD s d with
 |false=>
  rw[h1]at q1;refine⟨(Sy,[],false),(λh=>W0),AI.plain a0 YT (cE [.cell 2 37, .tmp 3, .tmp 4] func4 ?_)⟩
  repeat' first|refine .br ?_|refine .s1 ?_|(refine .q ?_ ?_<;>intro O)|fail
  exact aI rfl wn
 |true=>
 rw[h1]at q1;have a6:=Lh h1;have i1:ZS s:=⟨hs⟩;have i2:CK s:=⟨so⟩;have i3:Z d.size:=⟨hd⟩;have i4:CU d:=⟨a6⟩;obtain⟨bA,hA,q4⟩:=aAp s d;have a8:rG s=true:=by unfold sD at h1;rw[and_eq_true]at h1;exact h1.1
 by_cases h2:wR L=true/\¬(2000<(z:Int))/\d.ops≠[]/\bA=true
 case neg=>
  refine⟨(Sy,[],false),(λh=>W0),AI.plain a0 YT (cE [.cell 2 37, .tmp 3, .tmp 4] func4 ?_)⟩;generalize wR L=y at *
  have a9:d.ops≠[]↔((d.ops.length:Int)==0)=false:=by
   cases d.ops with
   |nil=>simp
   |cons a l=>simp;omega
  rw[a9]at h2;generalize ba:((d.ops.length:Int)==0)=b0 at *
  generalize bb:decide ((z:Int)>2000)=b2 at *
  have ai:(y && !b2 && !b0&&bA)=false:=by cases y<;>cases b2<;>cases b0<;>cases bA<;>simp_all
  clear h2;cases y<;>cases b2<;>cases b0<;>cases bA<;>first|(exact absurd ai Wd)|skip
  all_goals
   repeat' first|refine .br ?_|refine aH rfl q3 ew ?_|refine .s1 ?_|(refine .q ?_ ?_<;>intro O)|fail
   exact aI rfl wn
 obtain⟨g1,g2,g3,g4⟩:=h2;obtain⟨b,i⟩:=hA g4;have zz:0<d.ops.length:=List.length_pos_iff.2 g3;have a9:d.ops.length<=1048576:=by have:=aJ (size:=Ak.size) (λo=>Xj) d.ops;have h2:d.size=aC Ak.size d.ops+aC Af.size d.aj+3:=rfl;omega
 have n0:((d.ops.length:Int)==0)=false:=Wl
 have n1:decide ((z:Int)>2000)=false:=by simpa using g2
 rw[g1]at q2;rw[g4]at q4;have a4:IntKind.u64.wrap (d.ops.length:Int)=(d.ops.length:Int):=by
  have e:∀n:Int,IntKind.u64.wrap n=n % 18446744073709551616:=λn=>Zk
  rw[e];omega
 have hu:0<=IntKind.u64.wrap at_:=by
  have e:∀n:Int,IntKind.u64.wrap n=n % 18446744073709551616:=λn=>Zk
  rw[e];omega
 generalize hU:IntKind.u64.wrap at_=u at *
 obtain⟨j,hj,a7⟩:∃j:Nat,u.tmod (d.ops.length:Int)=(j:Int)/\j<d.ops.length:=by
  refine⟨(u.tmod (d.ops.length:Int)).toNat, ?_, ?_⟩
  ·rw[Int.toNat_of_nonneg (Int.tmod_nonneg _ hu)]
  ·have:=Int.tmod_lt_of_pos u (show (0:Int)<(d.ops.length:Int) by omega);have:=Int.tmod_nonneg (d.ops.length:Int) hu;omega
 have a2:IntKind.i64.wrap ((j:Nat):Int)=(j:Int):=by simp only[IntKind.wrap,IntKind.bits,IntKind.signed];simp;split<;>omega
 have x1:(d.ops.map Ak.C)[j]? =some d.ops[j].C:=by simp[a7]
 have x:=getElem_mem a7;generalize d.ops[j]=o at *
 obtain⟨c1,c2,c3,c4⟩:=v o x;have q5:=aCc s hs (λe he p hp=>(so e he).2 p hp) o.vars f c4 c3 hv vo;have k:=PV g1 (λt ht r hr=>(a1 t ht r hr).1);have q6:=aAb s (oN b) d _ c1 o L B9 (zQ c1 a8 b o) (k.mono Wd) c2;generalize hE:Ha s o.vars f=ev at *
 obtain⟨A,e⟩:=ev;dsimp only at c1 q5 q6;have a3:(d.ops.length:Int)≠0:=om
 by_cases w:e=0/\zR s d o A L<=400
 ·refine⟨(o,A,true),λ_=>⟨x,b,i,c1,c2,w.2,k,a8⟩,AI.plain (by simp[AV.K,aA,Ak.K,aR]) YT (cE [.cell 2 37, .tmp 3, .tmp 4] func4 ?_)⟩;have n3:(e != 0)=false:=by rw[w.1];rfl
  have n4:decide ((zR s d o A L:Int)>400)=false:=Wl
  generalize zR s d o A L=cn at *
  repeat' first|refine .br ?_|refine aH rfl q3 ew ?_|refine gC rfl rfl rfl rfl a4 ?_|refine gC rfl rfl rfl rfl a2 ?_|refine gC rfl rfl rfl rfl hU ?_|refine Kh rfl rfl a3 hj ?_|refine .s1 ?_|(refine .q ?_ ?_<;>intro O)|fail
  exact aO
 ·refine⟨(Sy,[],false),(λh=>W0),AI.plain a0 YT (cE [.cell 2 37, .tmp 3, .tmp 4] func4 ?_)⟩;generalize zR s d o A L=cn at *
  by_cases n3:e=0
  ·have am:(e != 0)=false:=by rw[n3];rfl
   have n4:decide ((cn:Int)>400)=true:=Wl
   repeat' first|refine .br ?_|refine aH rfl q3 ew ?_|refine gC rfl rfl rfl rfl a4 ?_|refine gC rfl rfl rfl rfl a2 ?_|refine gC rfl rfl rfl rfl hU ?_|refine Kh rfl rfl a3 hj ?_|refine .s1 ?_|(refine .q ?_ ?_<;>intro O)|fail
   exact aI rfl wn
  ·have am:(e != 0)=true:=by simpa using n3
   repeat' first|refine .br ?_|refine aH rfl q3 ew ?_|refine gC rfl rfl rfl rfl a4 ?_|refine gC rfl rfl rfl rfl a2 ?_|refine gC rfl rfl rfl rfl hU ?_|refine Kh rfl rfl a3 hj ?_|refine .s1 ?_|(refine .q ?_ ?_<;>intro O)|fail
   exact aI rfl wn
def Fj(x0 e:Ob)(s:AJ)(d:AR)(A:List AF)(st:AS){Q N:Nat->Nat}(h0:Q 0=2)(c:Q 1=1)(g0:N 0=2)(b:N 1=4):
  ∀(k i:Nat) (ob:Ob),([2,1]:List Nat)[k]? =some i->(evB s d A st)[k]? =some ob->(Cs x0 e s d A st)[i]? =some (ob.af Q N)
 |0,i,ob,h,a=>by cases h;cases a;exact congrArg some (RB s d A st.F h0 c g0).symm
 |1,i,ob,h,a=>by cases h;cases a;exact congrArg some (RC st.L st.R.length b).symm
 |k+2,i,ob,h,a=>W0
def Sz(st:AS)(d:AV)(a b:Nat)(e:List Tok){Q N:Nat->Nat}(c:N 2=5):
  ∀(k i:Nat) (t:Tok),([2,4,5]:List Nat)[k]? =some i->(evT st)[k]? =some t->(DN st d a b++e)[i]? =some (t.af Q N)
 |0,i,t,h,ht=>by cases h;cases ht;rfl
 |1,i,t,h,ht=>by cases h;cases ht;exact congrArg (λx=>some (Tok.aa x)) (zI c st.R).symm
 |2,i,t,h,ht=>by cases h;cases ht;rfl
 |k+3,i,t,h,ht=>W0
def UI(st:AS)(c:List AG)(xs:List Nd)(a b:Nat)(g:List Tok){Q N:Nat->Nat}(d:N 2=5)(e:N 4=6)(f:N 5=7):
  ∀(k i:Nat) (t:Tok),([2,4,5,3,6,7]:List Nat)[k]? =some i->(evT st++[.aa [knP false c (xs.map λy => .ac y.ak)], .len a, .len b])[k]? =some t->(DN st (knR c (xs.map λy => .ac y.ak)) a b++g)[i]? =some (t.af Q N)
 |0,i,t,h,ht=>by cases h;cases ht;rfl
 |1,i,t,h,ht=>by cases h;cases ht;exact congrArg (λx=>some (Tok.aa x)) (zI d st.R).symm
 |2,i,t,h,ht=>by cases h;cases ht;rfl
 |3,i,t,h,ht=>by cases h;cases ht;exact congrArg (λx=>some (Tok.aa x)) (JB e f c xs).symm
 |4,i,t,h,ht=>by cases h;cases ht;rfl
 |5,i,t,h,ht=>by cases h;cases ht;rfl
 |k+6,i,t,h,ht=>W0
def JQ(x0 a:Ob)(s:AJ)(d:AR)(A:List AF)(st st': AS){Q N:Nat->Nat}(h0:Q 0=2)(e:Q 1=1)(g0:N 0=2)(c:N 1=4):
  eZ (Cs x0 a s d A st) [2,1] ((evB s d A st').map (Ob.af Q N))=Cs x0 a s d A st':= by have b:=RB s d A st'.F h0 e g0;have e1:=RC (Q:=Q) st'.L st'.R.length c;show [x0,(Ob.cells (kR st'.L st'.R.length)).af Q N,(Ob.cells (rE s d A rdV lyV st'.F)).af Q N,a]=_;rw[b,e1];rfl
def UJ(st:AS)(c:AV)(a b:Nat)(tl:List Tok){Q N:Nat->Nat}(d:N 2=5):eZ (DN st c a b++tl) [2,4,5] ((evT st).map (Tok.af Q N))=DN st c a b++tl:=by have e:=zI (Q:=Q) d st.R;show (Tok.len 2 :: .len 2 :: .len st.F.length :: .aa [c] :: .aa (aX Q N (kI st.R)) :: .len (eD st.R).length :: .len a :: .len b::tl)++[]=_;rw[e,List.append_nil];rfl
def aAq(st c:AS)(l:AV)(a b f g:Nat)(d:List AG)(xs:List Nd)(tl:List Tok){Q N:Nat->Nat}(i:N 2=5)(j:N 4=6)(k:N 5=7):
  eZ (DN st l a b++tl) [2,4,5,3,6,7] ((evT c++[Tok.aa [knP false d (xs.map λy => .ac y.ak)],Tok.len f,Tok.len g]).map (Tok.af Q N))=DN c (knR d (xs.map λy => .ac y.ak)) f g++tl:=by have e:=zI (Q:=Q) i c.R;have h:=JB (Q:=Q) j k d xs;show (Tok.len 2 :: .len 2 :: .len c.F.length :: .aa (aX Q N [knP false d (xs.map λy => .ac y.ak)]) :: .aa (aX Q N (kI c.R)) :: .len (eD c.R).length :: .len f :: .len g::tl)++[]=_;rw[e,h,List.append_nil];rfl
def xS:Ob := .cells [.int .i64 0, .int .i64 0, .str [], .slice [] .nil, .slice [] .nil, .slice [] .nil, .slice [] .nil, .slice [] .nil]
def xP(u:AG)(w:List Sl):Ob := .cells [.ao 3 10 1 0 0, .str u, .str [], .str [], .slice [] .nil, .bool false, .slice (w.map Sl.C) .no, .slice [] .nil]
def plZ(u:AG)(w:List Sl):AV := .agg [.ao 3 10 1 0 0, .str u, .str [], .str [], .slice [] .nil, .bool false, .slice (w.map Sl.C) .no, .slice [] .nil]
def Dh(u:AG)(w:List Sl)(at_:AV)(h:AC (.ao 3 10 1 0 0) at_):AC (plZ u w) (plE at_ u cJ w []):=
 AC.agg (AA.cons h (AA.cons (aG _) (AA.cons (aG _) (AA.cons (aG _) (AA.cons (AC.no (aB _)) (AA.cons (aG _) (AA.cons (aG _) (AA.cons (AC.no (aB _)) (aB _)))))))))
theorem SA{Q N:Nat->Nat}(h0:Q 0=2)(at_:AV)(ha:at_.af Q N=at_)(u:AG)(w:List Sl):aX Q N [.ptr 0 0,plE at_ u cJ w []]=[.ptr 2 0,plE at_ u cJ w []]:=by simp only[plE,aX,AV.af,Tk.af,h0,ha,aU _ _ _ (aZ w),cJ,map_nil]
theorem UK{Q N:Nat->Nat}(h0:Q 0=2)(at_:AV)(ha:at_.af Q N=at_)(u:AG)(w:List Sl)(g:AV)(a:g.K=true):aX Q N [.ptr 0 0,plE at_ u cJ w [],g, .nilfn]=[.ptr 2 0,plE at_ u cJ w [],g, .nilfn]:=by simp only[plE,aX,AV.af,Tk.af,h0,ha,aU _ _ _ (aZ w),cJ,map_nil,cX _ _ _ a]
def EY(v:AH)(F:List A0)(R:List (List Ae))(L:List AY):(EK v F R L).K=true:=by have hF:aA (F.map A0.C)=true:=bH (λf=>Xl) F;have a:aA (kE R)=true:=bH (λr=>by simp[AV.K,sF]) R;simp[EK,AV.K,aA,AH.bp,AH.bs,hF,a,Tbls.K]
def OL(n m:Nat)(h:5<m):∀R,aE n m (rdJ 5 R)=true
 |[]=>rfl
 |[r]=>by simp[rdJ,aE,AV.ab,h]
 |r::q::l=>by have:=OL n m h (q::l);rw[rdJ,aE,this];simp[AV.ab]
def OM(u:AG)(w:List Sl)(s:AJ)(d:AR)(A:List AF)(st:AS)(c:List AG)(xs:List Nd)(a b:Nat):
  (aQ 4 8 (Cs xS (xP u w) s d A st)&&aL 4 8 (DN st (knR c (xs.map λy => .ac y.ak)) a b))=true:=by have e:aE 4 8 (xs.map λy => .ac y.ak)=true:=aD _ _ _ (gS _);have g:aE 4 8 (c.map AV.str)=true:=aD _ _ _ (aT _);have h3:=OL 4 8 om st.R;have h4:aE 4 8 (st.F.map A0.C)=true:=aD _ _ _ (bH (λf=>Xl) _);simp[Cs,DN,xS,xP,rnR,wkR,knR,aQ,aL,Ob.ab,Tok.ab,aE,AV.ab,e,g,h3,h4,Tbls.C,dY]
def VF(s:AJ)(d:AR)(A:List AF)(o:Ak)(l:List AY)(n:Nat)(hx:Am s d A)(aa:o.kind≠1)(aw:oU d=false)(ab:Ai o.O 0)(hT:BT l)
  (O:(bV s d A (n+1) false (aW s o) cJ o.O [] false ⟨l,[],[[]],0⟩).2.c<=4096) (G:List A0)
  (b:AN prog 30 [.slice ((bV s d A (n+1) false (aW s o) cJ o.O [] false ⟨l,[],[[]],0⟩).2.F.map A0.C) .no] (.slice (G.map A0.C) .no)):
  AN prog 6 [s.C,d.C,o.C, .slice (A.map AF.C) .no,Tbls.C l]
   (EK (upM (bV s d A (n+1) false (aW s o) cJ o.O [] false ⟨l,[],[[]],0⟩).1).1 G (bV s d A (n+1) false (aW s o) cJ o.O [] false ⟨l,[],[[]],0⟩).2.R (bV s d A (n+1) false (aW s o) cJ o.O [] false ⟨l,[],[[]],0⟩).2.L):=by
 have hplk:=nZ s d A n;have hpl:=Ju s d A hx n;have h0:At ⟨l,[],[[]],0⟩:=⟨le_refl _,Wb,zero_le _,(by show 1<=1048576;decide),hT⟩;have a5:=Jp s d A hx ⟨l,[],[[]],0⟩ (aW s o) cJ o.O [] ab (zero_le _);have al:=p5 s d A hx (aW s o) ab;have bd:=zH s d A _ (l5 s d A n) false (aW s o) cJ o.O [] false ⟨l,[],[[]],0⟩ (fmG s d A n (aW s o) cJ []) (λ_ _=>rfl);have bh:=Jt (fmG s d A n (aW s o) cJ []) (λg st h=>lI s d A _ hplk (aW s o) cJ g _ st h) (λg st h=>KI s d A _ hplk (aW s o) cJ g _ st h) (bF s d A (aW s o) o.O) (AS.ah ⟨l,[],[[]],0⟩) h0.ah.ok;have ah:=zD (fmG s d A n (aW s o) cJ []) (λg st h=>lI s d A _ hplk (aW s o) cJ g _ st h) (bF s d A (aW s o) o.O);have aj:=nS (fmG s d A n (aW s o) cJ []) (bF s d A (aW s o) o.O);have ai:=λl st h=>xC (fmG s d A n (aW s o) cJ []) (λg st h=>lI s d A _ hplk (aW s o) cJ g _ st h) l st h
 have a3:=λl=>xU (fmG s d A n (aW s o) cJ []) l
 have af:bV s d A (n+1) false (aW s o) cJ o.O [] false ⟨l,[],[[]],0⟩=(.mk 2 false bP ((bF s d A (aW s o) o.O).map AT.key) (bX (fmG s d A n (aW s o) cJ []) (bF s d A (aW s o) o.O) (AS.ah ⟨l,[],[[]],0⟩)).1,(bX (fmG s d A n (aW s o) cJ []) (bF s d A (aW s o) o.O) (AS.ah ⟨l,[],[[]],0⟩)).2):=rfl;rw[af]at O b ⊢;dsimp only at O b ⊢;have ad:=h0.ah.ok;have b3:∀g∈bF s d A (aW s o) o.O,g.O≠[]/\Ai g.O (AS.ah ⟨l,[],[[]],0⟩).c:=al;have f:=λ(g:AT) (x:Sl) (C:List Sl) (q:AS) (ks:List AG) (xs:List Nd) (u:g.O=x::C)=>N3 s d A hx n hplk hpl (aW s o) cJ ⟨Wd,λm hm=>by cases hm⟩ g x C u o.O [] q false ks xs
 have e0:evB s d A ⟨l,[],[[]],0⟩=evB s d A (AS.ah ⟨l,[],[[]],0⟩):=rfl;have e1:evT ⟨l,[],[[]],0⟩=evT (AS.ah ⟨l,[],[[]],0⟩):=rfl;rw[e0,e1]at a5;have bn:=OU l YI (λt ht=>Y0) (λt ht r hr=>by have:=hT.a8.aq t ht r hr;omega);have bm:=Rr s o;have av:=Rq d hx.hd;rw[aw]at av;have n1:(o.kind != 1)=true:=by simpa using aa
 have n2:(o.kind==1)=false:=by simpa using aa
 generalize bF s d A (aW s o) o.O=a at *
 have bk:a.length<=4096:=by have e:(AS.ah ⟨l,[],[[]],0⟩).c=1:=rfl;omega
 have ag:=cN s d A (AS.ah ⟨l,[],[[]],0⟩) 3 om;have b5:=mS 2 3 om (AS.ah ⟨l,[],[[]],0⟩);have ar:aE 2 3 [.ptr 0 0,plE .undef (aW s o) cJ o.O []]=true:=by simp[plE,aE,AV.ab,cJ]
 have be:AV.ab 2 3 (.slice (a.map AT.C) .no)=true:=aF _ _ _ Xa;have ak:(AV.slice (a.map AT.C) .no).K=true:=Xa
 refine AI.plain (EY _ _ _ _) Xd (cE [.cell 10 47] func6 ?_)
 repeat' first|refine AD.bx (v := .agg [Tbls.C l,_]) ?_|refine AD.bx (v := .agg [_,_,_,_,_,_,_,_,_]) ?_|refine .br ?_|refine bJ (d:=11) rfl rfl rfl rfl rfl ?_|refine b8 11 rfl (bE rfl rfl rfl rfl) ?_|refine bJ (d:=12) rfl rfl rfl rfl rfl ?_|refine b8 12 rfl (bE rfl rfl rfl rfl) ?_|refine fV 2 8 rfl rfl (k9 (k:=2) (z:=2) rfl rfl rfl) rfl ?_|refine b8 10 rfl (KT (k:=4) (i:=0) rfl rfl (k9 (k:=5) (z:=2) rfl rfl rfl) rfl rfl) ?_|refine b8 10 rfl (cV (k:=3) (i:=0) (c:=7) rfl rfl rfl (k9 (k:=6) (z:=1) rfl rfl rfl) rfl rfl) ?_|refine b8 10 rfl (cV (k:=3) (i:=0) (c:=9) rfl rfl rfl (k9 (k:=7) (z:=1) rfl rfl rfl) rfl rfl) ?_|refine .s1 ?_|(refine .q ?_ ?_<;>intro O)|refine b7 rfl ?_|refine bC (agg:=false) rfl rfl rfl rfl rfl rfl rfl rfl rfl rfl rfl ?_|refine F9 rfl (λB=>Vk B _) (aB _) ?_|refine dJ (m:=1) rfl rfl rfl rfl rfl rfl rfl rfl rfl rfl Wg om rfl ?_|fail
 refine lS (nB:=4) (nT:=8) (B0:=evB s d A (AS.ah ⟨l,[],[[]],0⟩)) (T0:=evT (AS.ah ⟨l,[],[[]],0⟩)) (B1:=evB s d A (AS.ah ⟨l,[],[[]],0⟩)) (T1:=evT (AS.ah ⟨l,[],[[]],0⟩)) (v := .slice (a.map AT.C) .no)
  (B':= Cs xS (xP (aW s o) o.O) s d A (AS.ah ⟨l,[],[[]],0⟩)) (T':= DN (AS.ah ⟨l,[],[[]],0⟩) (knR [] []) 0 0) [2,1] [2,4,5] rfl a5 rfl rfl (Fd om) ⟨Wd,Wd⟩ rfl rfl
  (Fj xS (xP (aW s o) o.O) s d A (AS.ah ⟨l,[],[[]],0⟩) rfl rfl rfl rfl) (Sz (AS.ah ⟨l,[],[[]],0⟩) (knR [] []) 0 0 [] rfl) ag b5 ar
  XH (cX _ _ _ ak)
  (JQ xS (xP (aW s o) o.O) s d A (AS.ah ⟨l,[],[[]],0⟩) (AS.ah ⟨l,[],[[]],0⟩) rfl rfl rfl rfl) (UJ (AS.ah ⟨l,[],[[]],0⟩) (knR [] []) 0 0 [] rfl) ?_
 refine .go ?_;refine bK a.length (λk=>[(62, .int .i64 k),(61, .int .i64 a.length),(60, .slice (a.map AT.C) .no),(13, .ptr 3 0),(12, .ac (.ptr 2 0)),(11, .ac (.ptr 1 0)),(10, .ptr 0 0),(7, .ac o.C)])
  (λk=>⟨Cs xS (xP (aW s o) o.O) s d A (bX (fmG s d A n (aW s o) cJ []) (a.take k) (AS.ah ⟨l,[],[[]],0⟩)).2,DN (bX (fmG s d A n (aW s o) cJ []) (a.take k) (AS.ah ⟨l,[],[[]],0⟩)).2 (knR ((a.take k).map AT.key) ((bX (fmG s d A n (aW s o) cJ []) (a.take k) (AS.ah ⟨l,[],[[]],0⟩)).1.map λy => .ac y.ak)) k k⟩)
  (λk=>True) ⟨rfl,congrArg (AV.int .i64) Wb,rfl,rfl,rfl,rfl,rfl,rfl,trivial⟩ rfl trivial λk bi _=> ?_
 by_cases h1:k<a.length
 ·have d1:decide ((k:Int)<(a.length:Int))=true:=by simp[h1]
  have x1:(a.map AT.C)[k]? =some a[k].C:=by simp[h1]
  have p:=aj k h1 (AS.ah ⟨l,[],[[]],0⟩);have a7:=ah (k+1) (AS.ah ⟨l,[],[[]],0⟩) ad;have w:=ai (a.take k) (AS.ah ⟨l,[],[[]],0⟩) ad;have zz:=a3 (a.take k) (AS.ah ⟨l,[],[[]],0⟩);have a6:(a.take k).length=k:=Wl
  have a9:BC _ _:=lI s d A (bV s d A n false) hplk (aW s o) cJ a[k] ([]++[⟨a[k].key,0⟩]) (bX (fmG s d A n (aW s o) cJ []) (a.take k) (AS.ah ⟨l,[],[[]],0⟩)).2 w.ok;obtain⟨b0,b4⟩:=b3 a[k] (getElem_mem h1);obtain⟨x,C,u⟩:=List.exists_cons_of_ne_nil b0;have ao:(a.take k).map AT.key++[a[k].key]=(a.take (k+1)).map AT.key:=by rw[List.take_succ_eq_append_getElem h1,List.map_append];rfl
  rw[p]at a7;have ac:(fmG s d A n (aW s o) cJ [] a[k] (bX (fmG s d A n (aW s o) cJ []) (a.take k) (AS.ah ⟨l,[],[[]],0⟩)).2).2.c<=4096:=le_trans a7 O;have a2:=f a[k] x C (bX (fmG s d A n (aW s o) cJ []) (a.take k) (AS.ah ⟨l,[],[[]],0⟩)).2 ((a.take k).map AT.key) (bX (fmG s d A n (aW s o) cJ []) (a.take k) (AS.ah ⟨l,[],[[]],0⟩)).1 u w.ok (b4.mono w.c) (zero_le _) (le_trans a9.c ac) WF om ac;generalize bX (fmG s d A n (aW s o) cJ []) (a.take k) (AS.ah ⟨l,[],[[]],0⟩)=q at *
  generalize fmG s d A n (aW s o) cJ [] a[k] q.2=r at *
  rw[length_map,a6,zz,a6]at a2;have am:∀l:List Nd,aE 2 6 (l.map λy => .ac y.ak)=true:=λl=>aD _ _ _ (gS _)
  have an:∀l:List AG,aE 2 6 (l.map AV.str)=true:=λl=>aD _ _ _ (aT _)
  have ax:∀(st:AS) (ks:List AG) (xs:List Nd) (j:Nat),aL 2 6 (evT st++[.aa [knP false ks (xs.map λy => .ac y.ak)], .len j, .len j])=true:=λst ks xs j=>Gb _ _ om _ _ (by simp only[aL,Tok.ab,aE,AV.ab,knP,am,an];rfl)
  have q1:=cN s d A q.2 6 om;have q2:=ax q.2 ((a.take k).map AT.key) q.1 k;have ap:aE 2 6 [.ptr 0 0,plE (.ao 3 10 1 0 0) (aW s o) cJ o.O [],a[k].C, .nilfn]=true:=by have:=aF 2 6 _ (AT.K a[k]);simp[plE,aE,AV.ab,this,cJ]
  have hw:AA [.ptr 2 0,plZ (aW s o) o.O,a[k].C, .nilfn] (aX (emb 4 [2,1]) (emb 9 [2,4,5,3,6,7]) [.ptr 0 0,plE (.ao 3 10 1 0 0) (aW s o) cJ o.O [],a[k].C, .nilfn]):=by rw[UK rfl (.ao 3 10 1 0 0) (by rw[AV.af];rfl) _ _ _ (AT.K _)];exact AA.cons (aG _) (AA.cons (Dh _ _ _ (aG _)) (aB _))
  have b1:=Fj xS (xP (aW s o) o.O) s d A q.2 (Q:=emb 4 [2,1]) (N:=emb 9 [2,4,5,3,6,7]) rfl rfl rfl rfl;have ba:=UI q.2 ((a.take k).map AT.key) q.1 k k [.len 2] (Q:=emb 4 [2,1]) (N:=emb 9 [2,4,5,3,6,7]) rfl rfl rfl;have ay:=JQ xS (xP (aW s o) o.O) s d A q.2 r.2 (Q:=emb 4 [2,1]) (N:=emb 9 [2,4,5,3,6,7]) rfl rfl rfl rfl;have az:=aAq q.2 r.2 (knR ((a.take k).map AT.key) (q.1.map λy => .ac y.ak)) k k (k+1) (k+1) ((a.take k).map AT.key++[a[k].key]) (q.1++[r.1]) [.len 2] (Q:=emb 4 [2,1]) (N:=emb 9 [2,4,5,3,6,7]) rfl rfl rfl
  repeat' first|refine .br ?_|refine bJ (d:=15) rfl rfl rfl rfl rfl ?_|refine b8 15 rfl (bE rfl rfl rfl rfl) ?_|refine .s1 ?_|(refine .q ?_ ?_<;>intro O)|refine b7 rfl ?_|refine bC (agg:=true) rfl rfl rfl rfl rfl rfl rfl rfl rfl rfl rfl ?_|refine lS (nB:=4) (nT:=9) (v := .tup []) [2,1] [2,4,5,3,6,7] rfl a2 rfl rfl (Fd om) ⟨Wd,Wd⟩ rfl rfl b1 ba q1 q2 ap hw rfl ay az ?_|fail
  refine⟨h1,Z9, ?_, ?_, ?_,trivial⟩
  ·have a4:aE 4 8 (a.map AT.C)=true:=aD _ _ _ (cH _);show aM 4 8 _=true;simp[aM,AV.ab,a4]
  ·exact OM _ _ _ _ _ _ _ _ _ _
  ·show (⟨Cs xS (xP (aW s o) o.O) s d A r.2,DN r.2 (knR ((a.take k).map AT.key++[a[k].key]) ((q.1++[r.1]).map λy => .ac y.ak)) (k+1) (k+1)⟩:St)=_;rw[p,ao]
 ·have d1:decide ((k:Int)<(a.length:Int))=false:=by simp;omega
  obtain rfl:k=a.length:=om
  rw[List.take_length];generalize bX (fmG s d A n (aW s o) cJ []) a (AS.ah ⟨l,[],[[]],0⟩)=q at *
  have a8:(Nd.mk 2 false bP (a.map AT.key) q.1).cnt<=68719476736:=om
  have bj:=Rj _ (Nd.mk 2 false bP (a.map AT.key) q.1) a8 (le_refl _);have hup:=tUp _ (Nd.mk 2 false bP (a.map AT.key) q.1) a8 (le_refl _);have bb:AC (knR (a.map AT.key) (q.1.map λy => .ac y.ak)) (Nd.mk 2 false bP (a.map AT.key) q.1).ak:=
   AC.agg (AA.cons (aG _) (AA.cons (aG _) (AA.cons (aG _) (AA.cons (aG _) (AA.cons (aG _) (AA.cons (AC.no (AA.eq (sA _ _ _ _).symm)) (AA.cons (AC.no (AA.eq (wO _ _ _ _).symm)) (AA.cons (AC.no (aB _)) (AA.cons (aG _)
    (AA.cons (AC.no (AA.eq Y9)) (aB _)))))))))))
  have aq:(kE q.2.R).length=(rdJ 5 q.2.R).length:=by rw[Jx];unfold kE;rw[length_map]
  have au:(kE q.2.R).length=q.2.R.length:=by unfold kE;rw[length_map]
  have a1:AV.slice (((kE q.2.R).take q.2.R.length).drop 0) .no = .slice (kE q.2.R) .no:=Zy
  have b2:=Gi 5 q.2.R;have bc:AA [.slice (q.2.F.map A0.C) (.own 2 2)] [.slice (q.2.F.map A0.C) .no]:=AA.cons (AC.no (aB _)) (aB _);unfold Cs DN xS xP rnR wkR;generalize Nd.mk 2 false bP (a.map AT.key) q.1=nd at *
  generalize knR (a.map AT.key) (q.1.map λy => .ac y.ak)=kn at *
  repeat' first|refine fV 3 0 rfl rfl (AK.trans (eJ (k:=3) rfl bb rfl) (bE (k:=3) (n:=1) (j:=0) rfl rfl rfl rfl)) rfl ?_|refine fV 1 1 rfl rfl (AK.trans (DM (k:=4) rfl b2 aq rfl) (AK.trans (cA (k:=4) (lo:=0) (X:=q.2.R.length) rfl au rfl) (AK.a7 (AC.eq a1)))) rfl ?_|refine aH rfl b bc ?_|refine .s1 ?_|(refine .q ?_ ?_<;>intro O)|refine b7 rfl ?_|fail
  exact aO
def sG(st:AS)(kn:AV)(a b:Nat):List Tok:=[.len 2, .len 2, .len st.F.length, .aa [kn], .aa (kE st.R), .len 0, .len a, .len b]
def Qa[AL]{H:St}(k:Nat){z0:AV}{T': List Tok}(hk:dN H.T=some k)(a:kP H.T (.len 0) some=some T'):AK H z0 ⟨H.B,T'⟩ z0:=RA (P:=prog) a
def Qb(st:AS)(c:st.R=[])(d:AV)(a b:Nat){Q N:Nat->Nat}:
  ∀(k i:Nat) (t:Tok),([2,4,5]:List Nat)[k]? =some i->(evT st)[k]? =some t->(sG st d a b)[i]? =some (t.af Q N)
 |0,i,t,h,ht=>by cases h;cases ht;rfl
 |1,i,t,h,ht=>by cases h;cases ht;show some (Tok.aa (kE st.R))=some (.aa (aX Q N (kI st.R)));rw[c];rfl
 |2,i,t,h,ht=>by cases h;cases ht;rw[c];rfl
 |k+3,i,t,h,ht=>W0
def SB(st:AS)(d:st.R=[])(c:AV)(a b:Nat){Q N:Nat->Nat}:eZ (sG st c a b) [2,4,5] ((evT st).map (Tok.af Q N))=sG st c a b:=by show (Tok.len 2 :: .len 2 :: .len st.F.length :: .aa [c] :: .aa (aX Q N (kI st.R)) :: .len (eD st.R).length :: .len a :: .len b::[])=_;unfold sG;rw[d];rfl
def SC(st:AS)(c:List AG)(xs:List Nd)(a b:Nat)(f:List Tok){Q N:Nat->Nat}(d:N 4=6)(e:N 5=7):
  ∀(k i:Nat) (t:Tok),([2,4,5,3,6,7]:List Nat)[k]? =some i->(mvT st++[.aa [knP false c (xs.map λy => .ac y.ak)], .len a, .len b])[k]? =some t->(sG st (knR c (xs.map λy => .ac y.ak)) a b++f)[i]? =some (t.af Q N)
 |0,i,t,h,ht=>by cases h;cases ht;rfl
 |1,i,t,h,ht=>by cases h;cases ht;exact congrArg (λx=>some (Tok.aa x)) (aU _ _ _ (fW st.R)).symm
 |2,i,t,h,ht=>by cases h;cases ht;rfl
 |3,i,t,h,ht=>by cases h;cases ht;exact congrArg (λx=>some (Tok.aa x)) (JB d e c xs).symm
 |4,i,t,h,ht=>by cases h;cases ht;rfl
 |5,i,t,h,ht=>by cases h;cases ht;rfl
 |k+6,i,t,h,ht=>W0
def UL(st c:AS)(k:AV)(a b f g:Nat)(d:List AG)(xs:List Nd)(tl:List Tok){Q N:Nat->Nat}(i:N 4=6)(j:N 5=7):
  eZ (sG st k a b++tl) [2,4,5,3,6,7] ((mvT c++[Tok.aa [knP false d (xs.map λy => .ac y.ak)],Tok.len f,Tok.len g]).map (Tok.af Q N))=sG c (knR d (xs.map λy => .ac y.ak)) f g++tl:=by have e:=aU Q N _ (fW c.R);have h:=JB (Q:=Q) i j d xs;show (Tok.len 2 :: .len 2 :: .len c.F.length :: .aa (aX Q N [knP false d (xs.map λy => .ac y.ak)]) :: .aa (aX Q N (kE c.R)) :: .len 0 :: .len f :: .len g::tl)++[]=_;rw[e,h,List.append_nil];rfl
def SD(u:AG)(w:List Sl)(s:AJ)(d:AR)(A:List AF)(st:AS)(f:List AG)(xs:List Nd)(a b:Nat):
  (aQ 4 8 (Cs xS (xP u w) s d A st)&&aL 4 8 (sG st (knR f (xs.map λy => .ac y.ak)) a b))=true:=by have e:=OM u w s d A st f xs a b;rw[and_eq_true]at e ⊢;refine⟨e.1, ?_⟩;have c:=e.2;unfold DN at c;unfold sG;simp only[aL,and_eq_true]at c ⊢;exact⟨c.1,c.2.1,c.2.2.1,c.2.2.2.1,by rw[Tok.ab,aD _ _ _ (fW _)],rfl,c.2.2.2.2.2.2⟩
theorem SF{Q N:Nat->Nat}(h0:Q 0=2)(a:Q 1=1)(at_:AV)(ha:at_.af Q N=at_)(u:AG)(w:List Sl)(g:AV)(b:g.K=true):aX Q N [.ptr 0 0,plE at_ u cJ w [],g,doV]=[.ptr 2 0,plE at_ u cJ w [],g,doV]:=by simp only[plE,doV,aX,AV.af,Tk.af,h0,a,ha,aU _ _ _ (aZ w),cJ,map_nil,cX _ _ _ b]
def aCp(s:AJ)(d:AR)(A:List AF)(o:Ak)(l:List AY)(n:Nat)(hx:Am s d A)(a5:o.kind=1)(am:oU d=false)(a6:Ai o.O 0)(W:Nat->List AY->Prop)(hW:BI s A (aW s o) W)(hno:Bk s (aW s o))(hk:W 1 l)
  (O:(bV s d A (n+1) true (aW s o) cJ o.O [] false ⟨l,[],[],0⟩).2.c<=400) (G:List A0)
  (b:AN prog 30 [.slice ((bV s d A (n+1) true (aW s o) cJ o.O [] false ⟨l,[],[],0⟩).2.F.map A0.C) .no] (.slice (G.map A0.C) .no)):
  AN prog 6 [s.C,d.C,o.C, .slice (A.map AF.C) .no,Tbls.C l]
   (EK (upM (bV s d A (n+1) true (aW s o) cJ o.O [] false ⟨l,[],[],0⟩).1).1 G (bV s d A (n+1) true (aW s o) cJ o.O [] false ⟨l,[],[],0⟩).2.R (bV s d A (n+1) true (aW s o) cJ o.O [] false ⟨l,[],[],0⟩).2.L):=by
 have hT:=hW.bz _ _ hk;have a2:=Jp s d A hx ⟨l,[],[],0⟩ (aW s o) cJ o.O [] a6 (zero_le _);have ac:=p5 s d A hx (aW s o) a6;have az:=zH s d A _ (l5 s d A n) true (aW s o) cJ o.O [] false ⟨l,[],[],0⟩ (fmT s d A n (aW s o)) (λ_ _=>rfl);have aa:=nS (fmT s d A n (aW s o)) (bF s d A (aW s o) o.O);have a0:=λl=>xU (fmT s d A n (aW s o)) l
 have a8:bV s d A (n+1) true (aW s o) cJ o.O [] false ⟨l,[],[],0⟩=(.mk 2 false bP ((bF s d A (aW s o) o.O).map AT.key) (bX (fmT s d A n (aW s o)) (bF s d A (aW s o) o.O) (AS.ah ⟨l,[],[],0⟩)).1,(bX (fmT s d A n (aW s o)) (bF s d A (aW s o) o.O) (AS.ah ⟨l,[],[],0⟩)).2):=rfl;rw[a8]at O b ⊢;dsimp only at O b ⊢;have a7:∀g∈bF s d A (aW s o) o.O,g.O≠[]/\Ai g.O 1:=ac;have p:=Gu s d A hx n (aW s o) W hW hno 1 _ a7 (AS.ah ⟨l,[],[],0⟩) ⟨zero_le _,zero_le _,hk⟩ O;have e0:evB s d A ⟨l,[],[],0⟩=evB s d A (AS.ah ⟨l,[],[],0⟩):=rfl;have e1:evT ⟨l,[],[],0⟩=evT (AS.ah ⟨l,[],[],0⟩):=rfl;rw[e0,e1]at a2;have bd:=OU l YI (λt ht=>Y0) (λt ht r hr=>by have:=hT.a8.aq t ht r hr;omega);have bc:=Rr s o;have al:=Rq d hx.hd;rw[am]at al;have n1:(o.kind != 1)=false:=Zh
 have n2:(o.kind==1)=true:=Zh
 generalize bF s d A (aW s o) o.O=a at *
 have bb:a.length<=4096:=by have:=p a.length (le_refl _);omega
 have a9:=cN s d A (AS.ah ⟨l,[],[],0⟩) 3 om;have au:=mS 2 3 om (AS.ah ⟨l,[],[],0⟩);have ai:aE 2 3 [.ptr 0 0,plE .undef (aW s o) cJ o.O []]=true:=by simp[plE,aE,AV.ab,cJ]
 have b0:AV.ab 2 3 (.slice (a.map AT.C) .no)=true:=aF _ _ _ Xa;have ab:(AV.slice (a.map AT.C) .no).K=true:=Xa
 refine AI.plain (EY _ _ _ _) Xd (cE [.cell 10 47] func6 ?_)
 repeat' first|refine AD.bx (v := .agg [Tbls.C l,_]) ?_|refine AD.bx (v := .agg [_,_,_,_,_,_,_,_,_]) ?_|refine .br ?_|refine bJ (d:=11) rfl rfl rfl rfl rfl ?_|refine b8 11 rfl (bE rfl rfl rfl rfl) ?_|refine bJ (d:=12) rfl rfl rfl rfl rfl ?_|refine b8 12 rfl (bE rfl rfl rfl rfl) ?_|refine fV 2 8 rfl rfl (k9 (k:=2) (z:=2) rfl rfl rfl) rfl ?_|refine fV 1 1 rfl rfl (kA (k:=4) (z:=1) rfl rfl rfl) rfl ?_|refine b8 10 rfl (Qa 5 rfl rfl) ?_|refine b8 10 rfl (cV (k:=3) (i:=0) (c:=7) rfl rfl rfl (k9 (k:=6) (z:=1) rfl rfl rfl) rfl rfl) ?_|refine b8 10 rfl (cV (k:=3) (i:=0) (c:=9) rfl rfl rfl (k9 (k:=7) (z:=1) rfl rfl rfl) rfl rfl) ?_|refine .s1 ?_|(refine .q ?_ ?_<;>intro O)|refine b7 rfl ?_|refine bC (agg:=false) rfl rfl rfl rfl rfl rfl rfl rfl rfl rfl rfl ?_|refine F9 rfl (λB=>Vk B _) (aB _) ?_|refine dJ (m:=1) rfl rfl rfl rfl rfl rfl rfl rfl rfl rfl Wg om rfl ?_|fail
 refine lS (nB:=4) (nT:=8) (B0:=evB s d A (AS.ah ⟨l,[],[],0⟩)) (T0:=evT (AS.ah ⟨l,[],[],0⟩)) (B1:=evB s d A (AS.ah ⟨l,[],[],0⟩)) (T1:=evT (AS.ah ⟨l,[],[],0⟩)) (v := .slice (a.map AT.C) .no)
  (B':= Cs xS (xP (aW s o) o.O) s d A (AS.ah ⟨l,[],[],0⟩)) (T':= sG (AS.ah ⟨l,[],[],0⟩) (knR [] []) 0 0) [2,1] [2,4,5] rfl a2 rfl rfl (Fd om) ⟨Wd,Wd⟩ rfl rfl
  (Fj xS (xP (aW s o) o.O) s d A (AS.ah ⟨l,[],[],0⟩) rfl rfl rfl rfl) (Qb (AS.ah ⟨l,[],[],0⟩) rfl (knR [] []) 0 0) a9 au ai
  XH (cX _ _ _ ab)
  (JQ xS (xP (aW s o) o.O) s d A (AS.ah ⟨l,[],[],0⟩) (AS.ah ⟨l,[],[],0⟩) rfl rfl rfl rfl) (SB (AS.ah ⟨l,[],[],0⟩) rfl (knR [] []) 0 0) ?_
 refine .go ?_;refine bK a.length (λk=>[(62, .int .i64 k),(61, .int .i64 a.length),(60, .slice (a.map AT.C) .no),(13, .ptr 3 0),(12, .ac (.ptr 2 0)),(11, .ac (.ptr 1 0)),(10, .ptr 0 0),(7, .ac o.C)])
  (λk=>⟨Cs xS (xP (aW s o) o.O) s d A (bX (fmT s d A n (aW s o)) (a.take k) (AS.ah ⟨l,[],[],0⟩)).2,sG (bX (fmT s d A n (aW s o)) (a.take k) (AS.ah ⟨l,[],[],0⟩)).2 (knR ((a.take k).map AT.key) ((bX (fmT s d A n (aW s o)) (a.take k) (AS.ah ⟨l,[],[],0⟩)).1.map λy => .ac y.ak)) k k⟩)
  (λk=>True) ⟨rfl,congrArg (AV.int .i64) Wb,rfl,rfl,rfl,rfl,rfl,rfl,trivial⟩ rfl trivial λk b5 _=> ?_
 by_cases h:k<a.length
 ·have d1:decide ((k:Int)<(a.length:Int))=true:=by simp[h]
  have x1:(a.map AT.C)[k]? =some a[k].C:=YW
  have f:=aa k h (AS.ah ⟨l,[],[],0⟩);obtain⟨k1,k2,k3⟩:=p k om;obtain⟨m1,m2,m3⟩:=p (k+1) h;have aj:=a0 (a.take k) (AS.ah ⟨l,[],[],0⟩);have a3:(a.take k).length=k:=Wl
  obtain⟨aq,zz⟩:=a7 a[k] (getElem_mem h);obtain⟨x,C,ad⟩:=List.exists_cons_of_ne_nil aq;have ag:(a.take k).map AT.key++[a[k].key]=(a.take (k+1)).map AT.key:=WN
  rw[f]at m3;have w:=TZ s d A hx n (aW s o) W hW hno a[k] x C ad zz o.O (bX (fmT s d A n (aW s o)) (a.take k) (AS.ah ⟨l,[],[],0⟩)).2 k1 (by have e:(AS.ah ⟨l,[],[],0⟩).c=1:=rfl;omega) (by dsimp only at m3;omega) false ((a.take k).map AT.key) (bX (fmT s d A n (aW s o)) (a.take k) (AS.ah ⟨l,[],[],0⟩)).1 WF om;clear m1 m2 m3 k1 k2 k3;generalize bX (fmT s d A n (aW s o)) (a.take k) (AS.ah ⟨l,[],[],0⟩)=q at *
  generalize fmT s d A n (aW s o) a[k] q.2=r at *
  rw[length_map,a3,aj,a3]at w;have ae:∀l:List Nd,aE 2 6 (l.map λy => .ac y.ak)=true:=λl=>aD _ _ _ (gS _)
  have af:∀l:List AG,aE 2 6 (l.map AV.str)=true:=λl=>aD _ _ _ (aT _)
  have an:∀(st:AS) (ks:List AG) (xs:List Nd) (j:Nat),aL 2 6 (mvT st++[.aa [knP false ks (xs.map λy => .ac y.ak)], .len j, .len j])=true:=λst ks xs j=>by rw[gZ,qN];simp only[aL,Tok.ab,aE,AV.ab,knP,ae,af];rfl
  have q1:=cN s d A q.2 6 om;have q2:=an q.2 ((a.take k).map AT.key) q.1 k;have ah:aE 2 6 [.ptr 0 0,plE (.ao 3 10 1 0 0) (aW s o) cJ o.O [],a[k].C,doV]=true:=by have:=aF 2 6 _ (AT.K a[k]);simp[plE,doV,aE,AV.ab,this,cJ]
  have hw:AA [.ptr 2 0,plZ (aW s o) o.O,a[k].C,doV] (aX (emb 4 [2,1]) (emb 9 [2,4,5,3,6,7]) [.ptr 0 0,plE (.ao 3 10 1 0 0) (aW s o) cJ o.O [],a[k].C,doV]):=by rw[SF rfl rfl (.ao 3 10 1 0 0) (by rw[AV.af];rfl) _ _ _ (AT.K _)];exact AA.cons (aG _) (AA.cons (Dh _ _ _ (aG _)) (aB _))
  have ar:=Fj xS (xP (aW s o) o.O) s d A q.2 (Q:=emb 4 [2,1]) (N:=emb 9 [2,4,5,3,6,7]) rfl rfl rfl rfl;have av:=SC q.2 ((a.take k).map AT.key) q.1 k k [.len 2] (Q:=emb 4 [2,1]) (N:=emb 9 [2,4,5,3,6,7]) rfl rfl;have ao:=JQ xS (xP (aW s o) o.O) s d A q.2 r.2 (Q:=emb 4 [2,1]) (N:=emb 9 [2,4,5,3,6,7]) rfl rfl rfl rfl;have ap:=UL q.2 r.2 (knR ((a.take k).map AT.key) (q.1.map λy => .ac y.ak)) k k (k+1) (k+1) ((a.take k).map AT.key++[a[k].key]) (q.1++[r.1]) [.len 2] (Q:=emb 4 [2,1]) (N:=emb 9 [2,4,5,3,6,7]) rfl rfl
  repeat' first|refine .br ?_|refine bJ (d:=15) rfl rfl rfl rfl rfl ?_|refine b8 15 rfl (bE rfl rfl rfl rfl) ?_|refine .s1 ?_|(refine .q ?_ ?_<;>intro O)|refine b7 rfl ?_|refine bC (agg:=true) rfl rfl rfl rfl rfl rfl rfl rfl rfl rfl rfl ?_|refine lS (nB:=4) (nT:=9) (v := .tup []) [2,1] [2,4,5,3,6,7] rfl w rfl rfl (Fd om) ⟨Wd,Wd⟩ rfl rfl ar av q1 q2 ah hw rfl ao ap ?_|fail
  refine⟨h,Z9, ?_, ?_, ?_,trivial⟩
  ·have a1:aE 4 8 (a.map AT.C)=true:=aD _ _ _ (cH _);show aM 4 8 _=true;simp[aM,AV.ab,a1]
  ·exact SD _ _ _ _ _ _ _ _ _ _
  ·show (⟨Cs xS (xP (aW s o) o.O) s d A r.2,sG r.2 (knR ((a.take k).map AT.key++[a[k].key]) ((q.1++[r.1]).map λy => .ac y.ak)) (k+1) (k+1)⟩:St)=_;rw[f,ag]
 ·have d1:decide ((k:Int)<(a.length:Int))=false:=by simp;omega
  obtain rfl:k=a.length:=om
  rw[List.take_length];generalize bX (fmT s d A n (aW s o)) a (AS.ah ⟨l,[],[],0⟩)=q at *
  have a4:(Nd.mk 2 false bP (a.map AT.key) q.1).cnt<=68719476736:=om
  have ba:=Rj _ (Nd.mk 2 false bP (a.map AT.key) q.1) a4 (le_refl _);have hup:=tUp _ (Nd.mk 2 false bP (a.map AT.key) q.1) a4 (le_refl _);have aw:AC (knR (a.map AT.key) (q.1.map λy => .ac y.ak)) (Nd.mk 2 false bP (a.map AT.key) q.1).ak:=
   AC.agg (AA.cons (aG _) (AA.cons (aG _) (AA.cons (aG _) (AA.cons (aG _) (AA.cons (aG _) (AA.cons (AC.no (AA.eq (sA _ _ _ _).symm)) (AA.cons (AC.no (AA.eq (wO _ _ _ _).symm)) (AA.cons (AC.no (aB _)) (AA.cons (aG _)
    (AA.cons (AC.no (AA.eq Y9)) (aB _)))))))))))
  have ak:(kE q.2.R).length=q.2.R.length:=by unfold kE;rw[length_map]
  have u:AV.slice (((kE q.2.R).take q.2.R.length).drop 0) .no = .slice (kE q.2.R) .no:=Zy
  have ax:AA [.slice (q.2.F.map A0.C) (.own 2 2)] [.slice (q.2.F.map A0.C) .no]:=AA.cons (AC.no (aB _)) (aB _);unfold Cs sG xS xP rnR wkR;generalize Nd.mk 2 false bP (a.map AT.key) q.1=nd at *
  generalize knR (a.map AT.key) (q.1.map λy => .ac y.ak)=kn at *
  repeat' first|refine fV 3 0 rfl rfl (AK.trans (eJ (k:=3) rfl aw rfl) (bE (k:=3) (n:=1) (j:=0) rfl rfl rfl rfl)) rfl ?_|refine fV 1 1 rfl rfl (AK.trans (cA (k:=4) (lo:=0) (X:=q.2.R.length) rfl ak rfl) (AK.a7 (AC.eq u))) rfl ?_|refine aH rfl b ax ?_|refine .s1 ?_|(refine .q ?_ ?_<;>intro O)|refine b7 rfl ?_|fail
  exact aO
structure BL(st st': AS):Prop where
 c:st.c<=st'.c
 f:∀f∈st'.F,f∈st.F\/f.path.length<=st'.c
def IT(st:AS):BL st st:=⟨le_refl _,λf h => .inl h⟩
theorem BL.trans{a b c:AS}(h:BL a b)(k:BL b c):BL a c:=⟨le_trans h.c k.c,λf hf=>by
 rcases k.f f hf with h1|h1
 ·rcases h.f f h1 with h2|h2
  ·exact .inl h2
  ·exact .inr (le_trans h2 k.c)
 ·exact .inr h1⟩
theorem BL.ah(st:AS):BL st st.ah:=⟨Nat.le_succ _,λf h => .inl h⟩
theorem BL.bad{st:AS}{p:Ab}(h:p.length<=st.c)(e:Int):BL st (st.bad p e):=⟨le_refl _,λf hf=>by
 rcases List.mem_append.1 hf with h1|h1
 ·exact .inl h1
 ·rw[List.mem_singleton.1 h1];exact .inr h⟩
theorem BL.read(st:AS)(n:Ae):BL st (st.read n):=⟨le_refl _,λf h => .inl h⟩
def B7(pl:Pl):Prop:=∀u row w p m st,p.length<=st.c->BL st (pl u row w p m st).2
mutual
theorem zS(s:AJ)(pl:Pl)(hpl:B7 pl)(tb:AG)(w:List Sl):∀(v:AH) (t:Ac) (p:Ab) (st:AS),p.length<=st.c->BL st (dD s pl tb w v t p st).2
 | .mk k n str l m,t,p,st,h=>by
  have ht:=BL.ah st
  have hb:∀e,BL st (st.ah.bad p e):=λe=>ht.trans (BL.bad (le_succ_of_le h) e)
  have hr:BL st (st.ah.read ⟨tb,str⟩):=ht.trans (BL.read _ _)
  rw[dD]
  dsimp only
  split
  ·split
   ·exact hb 9
   ·exact ht
  split
  ·split
   ·exact hb 7
   ·exact ht.trans (GR s pl hpl tb w l (cB t) p 0 st.ah (Nat.succ_le_succ h))
  split
  ·split
   ·exact hb _
   ·exact ht
  split
  ·exact hb 7
  unfold xB
  split
  ·exact hr.trans (BL.bad (le_succ_of_le h) _)
  split
  ·split
   ·exact hr.trans (BL.bad (le_succ_of_le h) _)
   ·exact hr
  split
  ·exact hr.trans (BL.bad (le_succ_of_le h) _)
  ·exact hr.trans (hpl _ _ _ _ _ _ (le_succ_of_le h))
theorem GR(s:AJ)(pl:Pl)(hpl:B7 pl)(tb:AG)(w:List Sl):∀(l:List AH) (t:Ac) (p:Ab) (i:Nat) (st:AS),p.length+1<=st.c->BL st (cC s pl tb w l t p i st).2
 |[],_,_,_,st,_=>by rw[cC];exact IT _
 |v::l,t,p,i,st,h=>by
  rw[cC]
  have a:=zS s pl hpl tb w v t (p++[⟨[],i⟩]) st (by rw[length_append];exact h)
  exact a.trans (GR s pl hpl tb w l t p (i+1) _ (le_trans h a.c))
end
def Na(s:AJ)(d:AR)(A:List AF)(pl:Pl)(hpl:B7 pl)(a:Bool)(u:AG)(row:Row)(g:AT)(p:Ab)(st:AS)(h:p.length<=st.c):BL st (b6 s d A pl a u row g p st).2:=by
 have ht:=BL.ah st;have hb:∀e,BL st (st.ah.bad p e):=λe=>ht.trans (BL.bad (le_succ_of_le h) e)
 unfold b6;dsimp only;split
 ·exact ht
 split
 ·exact hb _
 split
 ·split
  ·have b:∀L,BL st ⟨L,st.ah.F,st.ah.R++[[]],st.ah.c⟩:=λL=>⟨ht.c,ht.f⟩
   split
   ·exact(b _).trans (BL.bad (le_succ_of_le h) _)
   ·exact(b _).trans (zS s pl hpl _ _ _ _ _ _ (le_succ_of_le h))
  ·exact hb 14
 ·exact ht.trans (zS s pl hpl _ _ _ _ _ _ (le_succ_of_le h))
def IH{α:Type}(a:α->AS->Nd×AS)(n:Nat)(hf:∀g st,n<=st.c->BL st (a g st).2):∀(l:List α) (st:AS),n<=st.c->BL st (bX a l st).2
 |[],st,_=>IT st
 |g::l,st,h=>(hf g st h).trans (IH a n hf l _ (le_trans h (hf g st h).c))
def zT(s:AJ)(d:AR)(A:List AF):∀(n:Nat) (a:Bool),B7 (bV s d A n a)
 |0,a=>λu row w p m st h=>⟨Nat.le_add_right _ _,λf hf => .inl hf⟩
 |n+1,a=>λu row w p m st h=>by
  rw[bV]
  exact(BL.ah st).trans (IH _ (p.length+1) (λg st h=>Na s d A _ (zT s d A n false) a u row g _ st (by rw[length_append];exact h)) _ _ (Nat.succ_le_succ h))
end Go.Proofs.YtimbiifcnhgcoaaGreatDoor
