/- Joined texts. -/
import Derived.Test.YtdodieljpcfpcaaGreatDoorGEvR19
set_option maxRecDepth 100000
set_option maxHeartbeats 16000000
set_option linter.all false
open List (append_nil getElem_mem length_append length_map length_take map_append take_length take_of_length_le take_succ_eq_append_getElem)
open Nat (le_refl sub_self)
open Bool (and_eq_true)
open Go Go.Av Go.Proofs.YtdodieljpcfpcaaGreatDoor Go.Proofs.Tryz
variable{name:AF}{g h:Gs}{k:Nat}
namespace Go.Proofs.YtdodieljpcfpcaaGreatDoor
open Go Go.Av Go.Proofs.Tryz
attribute [local irreducible] AB AD AN AQ Av.AS AZ
def Ul(s:AI)(hs:s.size<=1048576)(b:Bool)(A m:List AG)(ps:List AO)(R:AO->R3)(he:A.length<=68719476736)(hm:m.length<=68719476736)(a3:ps.length<=68719476736)
  (hG:∀p∈ps,AN prog 43 [s.C,p.t.C,(bR p.name m).1.C, .bool (bR p.name m).2, .bool (p.has&&eC s p.t.name),p.d.C, .bool b, .slice (A.map AG.C) .no] (M3.C (Jz (R p)))):
  AN prog 237 [s.C, .slice (ps.map AO.C) .no, .slice (m.map AG.C) .no, .bool b, .slice (A.map AG.C) .no] (VE.C (if m.any (gQ b A m ps)=true then (bO,6) else if (gP R ps).2≠0 then (bO,(gP R ps).2) else (.mk 7 0 [] [] (gP R ps).1,0))):=by
 refine pER [.cell 10 43, .tmp 11] func237 (O:=VE.K _) ?_;refine .ac ?_;refine bK (hj:=by rw[List.take_zero];rfl) m.length (λk=>[(12, .int .i64 k),(1, .slice (ps.map AO.C) .no),(2, .slice (m.map AG.C) .no),(3, .bool b),(4, .slice (A.map AG.C) .no),(5, .ab s.C),(10, .ptr 0 0)]) (λ_=>⟨[.cells fI],[]⟩) (λk=>(m.take k).any (gQ b A m ps)=false) Z0 λk hk hj=> ?_
 by_cases h1:k<m.length
 ·have d1:=ltT h1;have x1:=aU (f:=AG.C) h1;have o:=getElem_mem h1;have u:=N5 ps m[k].name a3;obtain⟨y,hy⟩:=LQ o;have j:=aAN m[k].name m A b y hy hm he;have g:gQ b A m ps m[k]=((sD ps m[k].name).isNone&&fX b A y):=by unfold gQ;rw[hy]
  have a:(m.take (k+1)).any (gQ b A m ps)=gQ b A m ps m[k]:=Yc
  cases l:sD ps m[k].name with
  |none=>
   have e1:p7 ps m[k].name=(In,false):=by rw[p7,l]
   rw[e1]at u;rw[l]at g;cases c:fX b A y with
   |true=>rw[c]at j g;have w:m.any (gQ b A m ps)=true:=List.any_eq_true.2 ⟨_,o,g⟩;rw[if_pos w];refine .go ?_;exact aI rfl bP
   |false=>rw[c]at j g;refine .go ?_;exact⟨h1,Z0,Wg,Ww,rfl,a.trans g⟩
  |some p=>
   have e1:p7 ps m[k].name=(p,true):=by rw[p7,l]
   rw[e1]at u;rw[l]at g;refine .go ?_;exact⟨h1,Z0,Wg,Ww,rfl,a.trans g⟩
 ·have d1:=ltF h1;obtain rfl:k=m.length:=om
  rw[take_length]at hj;rw[if_neg (by rw[hj];decide)];refine .go ?_;refine lI 1 4 true 6 ?_;refine bK (hj:=uV R ps) ps.length (λk=>[(16, .int .i64 k),(1, .slice (ps.map AO.C) .no),(2, .slice (m.map AG.C) .no),(3, .bool b),(4, .slice (A.map AG.C) .no),(5, .ab s.C),(10, .ptr 0 0),(15, .ptr 1 0)]) (λk=>⟨[.cells fI, .cells [.int .i64 7, .int .i64 0, .str [], .slice [] .nil, .slice ((dZ R (ps.take k)).map AG.C) (.own 0 6)]],[.len (dZ R (ps.take k)).length]⟩) (vB R ps) Z0 λk hk v=> ?_
  by_cases h2:k<ps.length
  ·have d2:=ltT h2;have x2:=aU (f:=AO.C) h2;have hg:=wI ps[k].name m om;have e:=hG ps[k] (getElem_mem h2);have a8:=Ju s ps[k].t.name hs;have z:=yJ h2 v;have jn:=uW h2 v;have j:=sV R (ps.take k);rw[length_take]at j;have a:dZ R (ps.take (k+1))=dZ R (ps.take k)++(if (R ps[k]).2.1=true then [.mk ps[k].name (R ps[k]).1] else []):=by rw[take_succ_eq_append_getElem h2,pN,dZ,dZ,append_nil]
   generalize R ps[k]=r at e z jn a;obtain⟨rv,rb,re⟩:=r;unfold M3.C Jz at e;simp only at e z jn a;generalize bR ps[k].name m=gv at hg e;cases x:ps[k].has with
   |true=>
    rw[x,Bool.true_and]at e;by_cases i:re=0
    ·subst i;have h:=jn rfl;simp only[decide_true,Bool.and_true]at e;cases rb with
     |true=>
      rw[if_pos rfl]at a
      repeat' first|refine bH (d:=17) ?_|refine bY 17 rfl (aY) ?_|refine .s1 ?_|(refine .q ?_ ?_<;>intro O)|refine aX (agg:=true) ?_|refine bU (n:=(dZ R (ps.take k)).length) (length_map ..) ?_|fail
      exact⟨h2,Z0,Wg,YR,Zc,h⟩
     |false=>
      rw[if_neg Wc,append_nil]at a
      repeat' first|refine bH (d:=17) ?_|refine bY 17 rfl (aY) ?_|refine .s1 ?_|(refine .q ?_ ?_<;>intro O)|refine aX (agg:=true) ?_|fail
      exact⟨h2,Z0,Wg,Ww,WD,h⟩
    ·have a2:(re != 0)=true:=by simpa using i
     rw[z i,if_pos i]
     repeat' first|refine bH (d:=17) ?_|refine bY 17 rfl (aY) ?_|refine .s1 ?_|(refine .q ?_ ?_<;>intro O)|refine aX (agg:=true) ?_|fail
     exact aI rfl bP
   |false=>
    rw[x,Bool.false_and]at e;by_cases i:re=0
    ·subst i;have h:=jn rfl;simp only[decide_true,Bool.and_true]at e;cases rb with
     |true=>
      rw[if_pos rfl]at a
      repeat' first|refine bH (d:=17) ?_|refine bY 17 rfl (aY) ?_|refine .s1 ?_|(refine .q ?_ ?_<;>intro O)|refine aX (agg:=true) ?_|refine bU (n:=(dZ R (ps.take k)).length) (length_map ..) ?_|fail
      exact⟨h2,Z0,Wg,YR,Zc,h⟩
     |false=>
      rw[if_neg Wc,append_nil]at a
      repeat' first|refine bH (d:=17) ?_|refine bY 17 rfl (aY) ?_|refine .s1 ?_|(refine .q ?_ ?_<;>intro O)|refine aX (agg:=true) ?_|fail
      exact⟨h2,Z0,Wg,Ww,WD,h⟩
    ·have a2:(re != 0)=true:=by simpa using i
     rw[z i,if_pos i]
     repeat' first|refine bH (d:=17) ?_|refine bY 17 rfl (aY) ?_|refine .s1 ?_|(refine .q ?_ ?_<;>intro O)|refine aX (agg:=true) ?_|fail
     exact aI rfl bP
  ·have d2:=ltF h2;obtain rfl:k=ps.length:=om
   rw[yK v,if_neg Wa];refine .go ?_;refine aI rfl ?_;rw[take_length];exact AC.tup (AA.cons EU (aD _))
def qU(s:AI)(lit:Bool)(A:List AG)(dfl:AO->VE)(alone:Bool)(v:AH)(t:Ae):VE:=if (!alone&&gW lit t v.kind)=true then (bO,7) else mkV s lit A dfl v t
theorem Ol(a:AH->Bool)(F:AH->AH×Int):∀l,lR a F l=lR (λ_=>false) (λx=>if a x=true then (bO,7) else F x) l
 |[]=>rfl
 |x::l=>by rw[lR,lR, <-Ol a F l];grind
theorem PP{v:AH}(h:g7 fT v=true)(k:v.kind=0):v=bO:=by rw[lM,if_neg om,if_neg om]at h;obtain⟨a,n,str,l,m⟩:=v;unfold lL at h;subst k;rw[and_eq_true,and_eq_true]at h;obtain⟨⟨h1,h2⟩,h3⟩:=h;obtain rfl:=List.length_eq_zero_iff.1 (of_decide_eq_true h1);obtain rfl:=List.length_eq_zero_iff.1 (of_decide_eq_true h2);change (n==0&&str==[])=true at h3;rw[and_eq_true,beq_iff_eq,beq_iff_eq]at h3;obtain⟨rfl,rfl⟩:=h3;rfl
def R7(s:AI)(hs:s.size<=1048576)(a:Bool)(A:List AG)(dfl:AO->VE)(v:AH)(t:Ae)(f:v.kind=8)(he:A.length<=68719476736)(ht:t.name.length<=68719476736):
  AN prog 159 [s.C,t.C,v.C, .bool a, .bool true, .slice (A.map AG.C) .no] (VE.C (qU s true A dfl a v t)):=by
 have b:=wI v.s A om;have X:=rIs t om;rw[kH]at b;have e:(!a&&gW true t v.kind)=false:=by rw[f];unfold gW;simp
 unfold qU;rw[if_neg (by rw[e];decide),rM,if_pos ⟨rfl,f⟩];have j:(v.kind==8)=true:=by simp[f]
 refine pER [.cell 12 43, .tmp 13] func159 (O:=VE.K _) ?_;cases g:oF A v.s with
 |none=>
  rw[g]at b;cases c:isT t<;>rw[c]at X
  all_goals
   repeat' first|refine AD.br (d:=6) ?_|refine AD.br (d:=7) ?_|refine .s1 ?_|(refine .q ?_ ?_<;>intro O)|fail
   exact aI rfl bP
 |some x=>
  rw[g]at b;dsimp only;by_cases x0:x.kind=0
  ·have i:=beT x0;cases c:isT t with
   |true=>
    rw[c]at X;rw[if_pos (show x.kind=0/\true=true from⟨x0,rfl⟩)];repeat' first|refine AD.br (d:=6) ?_|refine AD.br (d:=7) ?_|refine .s1 ?_|(refine .q ?_ ?_<;>intro O)|fail
    exact aI rfl bP
   |false=>
    rw[c]at X;rw[if_neg (show ¬(x.kind=0/\false=true) by simp)];repeat' first|refine AD.br (d:=6) ?_|refine AD.br (d:=7) ?_|refine .s1 ?_|(refine .q ?_ ?_<;>intro O)|fail
    exact aO
  ·have i:=beF x0;rw[if_neg (λh=>x0 h.1)];repeat' first|refine AD.br (d:=6) ?_|refine AD.br (d:=7) ?_|refine .s1 ?_|(refine .q ?_ ?_<;>intro O)|fail
   exact aO
def PQ(s:AI)(m h:Bool)(A:List AG)(v:AH)(t:Ae)(F:AH->AH×Int)(hr:cC t=true)(hl:t.ak≠0)(y:v.kind=6)(hv:v.size<=1048576)(ht:t.name.length<=68719476736)
  (hF:∀x∈v.l,AN prog 159 [s.C,(b7 t).C,x.C, .bool false, .bool m, .slice (A.map AG.C) .no] (VE.C (F x))):
  AN prog 159 [s.C,t.C,v.C, .bool h, .bool m, .slice (A.map AG.C) .no] (VE.C (kL (λ_=>false) F v.l)):=by
 have o:=KO t om;unfold fZ at o;rw[if_pos ⟨hr,hl⟩]at o;have q8:(v.kind==8)=false:=by simp[y]
 have q0:(v.kind==0)=false:=by simp[y]
 have q6:=bnF y;have a1:=v.bu;refine pER [.cell 12 43, .tmp 13] func159 (O:=VE.K _) ?_;cases m with
 |false=>
  repeat' first|refine .br ?_|refine bH (d:=17) ?_|refine bY 17 rfl (aY) ?_|refine .s1 ?_|(refine .q ?_ ?_<;>intro O)|refine aX (agg:=true) ?_|fail
  refine lI 2 3 true 5 ?_;refine bK (hj:=Eb _ _ _) v.l.length (λk=>[(22, .int .i64 k),(4, .bool false),(5, .slice (A.map AG.C) .no),(6, .ab s.C),(8, .ab v.C),(12, .ptr 0 0),(14, .ptr 1 0),(17, .ab (b7 t).C),(21, .ptr 2 0)]) (λk=>⟨[.cells fI, .cells fI, .cells [.int .i64 6, .int .i64 0, .str [], .slice (((v.l.take k).map (λx=>(F x).1)).map AH.C) (.own 1 5), .slice [] .nil]],[.len 2, .len k]⟩) (HC (λ_=>false) F v.l) Z0 λk hk hj=> ?_
  by_cases h1:k<v.l.length
  ·have p:decide ((k:Int)<(v.lv.length:Int))=true:=by rw[v.ba];simp[h1]
   have x1:=lK h1;have O:=hF v.l[k] (getElem_mem h1);have u:=Hk h1 hj rfl;have w:=Ec h1 hj rfl;have g:((v.l.take k).map (λx=>(F x).1)).length=k:=X6
   have b:(((v.l.take k).map (λx=>(F x).1)).map AH.C).length=k:=Zk
   have e:(v.l.take (k+1)).map (λx=>(F x).1)=(v.l.take k).map (λx=>(F x).1)++[(F v.l[k]).1]:=Wt
   by_cases a:(F v.l[k]).2=0
   ·have i:=w a;generalize hr:F v.l[k]=r at O a e;obtain⟨rv,z⟩:=r;simp only at a e;subst a;unfold VE.C at O;simp only at O
    repeat' first|refine .s1 ?_|(refine .q ?_ ?_<;>intro O)|refine bU (n:=k) b ?_|fail
    exact⟨h1,Z0,Wg,Xs,by rw[e,map_append];rfl,i⟩
   ·have j:=u a;have f:((F v.l[k]).2 != 0)=true:=by simpa using a
    have c:kL (λ_=>false) F v.l=(bO,(F v.l[k]).2):=Zr
    rw[c];generalize F v.l[k]=r at O a f;obtain⟨rv,z⟩:=r;simp only at a f;unfold VE.C at O;simp only at O;refine .go ?_;exact aI rfl bP
  ·have p:decide ((k:Int)<(v.lv.length:Int))=false:=by rw[v.ba];simp;omega
   obtain rfl:k=v.l.length:=om
   have j:=Hl hj;have c:kL (λ_=>false) F v.l=(.mk 6 0 [] (v.l.map λx=>(F x).1) [],0):=by unfold kL;rw[j];rfl
   rw[c];refine .go ?_;refine aI rfl ?_;rw[take_length];exact AC.tup (AA.cons nF (aD _))
 |true=>
  repeat' first|refine .br ?_|refine bH (d:=17) ?_|refine bY 17 rfl (aY) ?_|refine .s1 ?_|(refine .q ?_ ?_<;>intro O)|refine aX (agg:=true) ?_|fail
  refine lI 2 3 true 5 ?_;refine bK (hj:=Eb _ _ _) v.l.length (λk=>[(22, .int .i64 k),(4, .bool true),(5, .slice (A.map AG.C) .no),(6, .ab s.C),(8, .ab v.C),(12, .ptr 0 0),(14, .ptr 1 0),(17, .ab (b7 t).C),(21, .ptr 2 0)]) (λk=>⟨[.cells fI, .cells fI, .cells [.int .i64 6, .int .i64 0, .str [], .slice (((v.l.take k).map (λx=>(F x).1)).map AH.C) (.own 1 5), .slice [] .nil]],[.len 2, .len k]⟩) (HC (λ_=>false) F v.l) Z0 λk hk hj=> ?_
  by_cases h1:k<v.l.length
  ·have p:decide ((k:Int)<(v.lv.length:Int))=true:=by rw[v.ba];simp[h1]
   have x1:=lK h1;have O:=hF v.l[k] (getElem_mem h1);have u:=Hk h1 hj rfl;have w:=Ec h1 hj rfl;have g:((v.l.take k).map (λx=>(F x).1)).length=k:=X6
   have b:(((v.l.take k).map (λx=>(F x).1)).map AH.C).length=k:=Zk
   have e:(v.l.take (k+1)).map (λx=>(F x).1)=(v.l.take k).map (λx=>(F x).1)++[(F v.l[k]).1]:=Wt
   by_cases a:(F v.l[k]).2=0
   ·have i:=w a;generalize hr:F v.l[k]=r at O a e;obtain⟨rv,z⟩:=r;simp only at a e;subst a;unfold VE.C at O;simp only at O
    repeat' first|refine .s1 ?_|(refine .q ?_ ?_<;>intro O)|refine bU (n:=k) b ?_|fail
    exact⟨h1,Z0,Wg,Xs,by rw[e,map_append];rfl,i⟩
   ·have j:=u a;have f:((F v.l[k]).2 != 0)=true:=by simpa using a
    have c:kL (λ_=>false) F v.l=(bO,(F v.l[k]).2):=Zr
    rw[c];generalize F v.l[k]=r at O a f;obtain⟨rv,z⟩:=r;simp only at a f;unfold VE.C at O;simp only at O;refine .go ?_;exact aI rfl bP
  ·have p:decide ((k:Int)<(v.lv.length:Int))=false:=by rw[v.ba];simp;omega
   obtain rfl:k=v.l.length:=om
   have j:=Hl hj;have c:kL (λ_=>false) F v.l=(.mk 6 0 [] (v.l.map λx=>(F x).1) [],0):=by unfold kL;rw[j];rfl
   rw[c];refine .go ?_;refine aI rfl ?_;rw[take_length];exact AC.tup (AA.cons nF (aD _))
def R8(s:AI)(b a:Bool)(A:List AG)(v:AH)(t:Ae)(r:AH×Int)(hr:cC t=true)(hl:t.ak≠0)(g:¬(b=true/\v.kind=8))(h:v.kind≠0)(i:v.kind≠6)(ht:t.name.length<=68719476736)
  (hF:a=true->AN prog 159 [s.C,(b7 t).C,v.C, .bool true, .bool b, .slice (A.map AG.C) .no] (VE.C r)):
  AN prog 159 [s.C,t.C,v.C, .bool a, .bool b, .slice (A.map AG.C) .no] (VE.C (if a=false then (bO,7) else if r.2≠0 then (bO,r.2) else (.mk 6 0 [] [r.1] [],0))):=by
 have c:=KO t om;unfold fZ at c;rw[if_pos ⟨hr,hl⟩]at c;have k:=beF h;have m:=bnT i;have hw:b=false\/(b=true/\(v.kind==8)=false):=by
  cases b with
  |false=>exact .inl rfl
  |true=>exact .inr ⟨rfl,by simpa using g⟩
 refine pER [.cell 12 43, .tmp 13] func159 (O:=VE.K _) ?_;cases a with
 |false=>
  rw[if_pos rfl];rcases hw with rfl|⟨rfl,q8⟩
  all_goals
   refine .ac ?_;exact aI rfl bP
 |true=>
  rw[if_neg Wc];have hf:=hF rfl;obtain⟨j,e⟩:=r;unfold VE.C at hf;simp only at hf ⊢;by_cases d:e=0
  ·subst d;rw[if_neg Wa];rcases hw with rfl|⟨rfl,q8⟩
   all_goals
    refine .ac ?_;exact aI rfl (AC.tup (AA.cons (nF (l:=[j])) (aD _)))
  ·have f:(e != 0)=true:=by simpa using d
   rw[if_pos d];rcases hw with rfl|⟨rfl,q8⟩
   all_goals
    refine .ac ?_;exact aI rfl bP
def PR(s:AI)(hs:s.size<=1048576)(a i:Bool)(A:List AG)(dfl:AO->VE)(v:AH)(t:Ae)(h8:¬(a=true/\v.kind=8))(hr:cC t=true)(hl:v.kind=0\/t.ak=0)(hg:g7 fT v=true)(ht:t.name.length<=68719476736)(h0 : -9223372036854775808<=v.n)(h1:v.n<=9223372036854775807)
  (a3:∀d,dQ s t.name=some d->d.kind=5->v.kind=7->AN prog 237 [s.C, .slice (d.params.map AO.C) .no, .slice v.mv .no, .bool a, .slice (A.map AG.C) .no] (VE.C (nA s a A dfl (mkM s a A dfl v.m) d))):
  AN prog 159 [s.C,t.C,v.C, .bool i, .bool a, .slice (A.map AG.C) .no] (VE.C (mkV s a A dfl v t)):=by
 have X:=rIs t om;have o:=KO t om;have hf:=DO s t.name hs;have hw:a=false\/(a=true/\(v.kind==8)=false):=by
  cases a with
  |false=>exact .inl rfl
  |true=>exact .inr ⟨rfl,by simpa using h8⟩
 refine pER [.cell 12 43, .tmp 13] func159 (O:=VE.K _) ?_;by_cases k:v.kind=0
 ·have q0:=beT k;rw[rM,if_neg h8,if_pos k,PP hg k];cases c:isT t<;>rw[c]at X
  all_goals
   rcases hw with rfl|⟨rfl,q8⟩
   all_goals
    refine .ac ?_;exact aI rfl bP
 ·have q0:=beF k;have p:=hl.resolve_left k;unfold fZ at o;rw[if_neg (λh=>h.2 p)]at o;rw[rM,if_neg h8,if_neg k,if_neg (λh=>h.2 p)];unfold mF;unfold bN at hf;have a4:(t.name==[])=false:=by have:=(fW.1 hr).1;rw[beq_eq_false_iff_ne];intro e;rw[e]at this;exact absurd this Wc
  cases b:dQ s t.name with
  |none=>
   rw[b]at hf;rcases hw with rfl|⟨rfl,q8⟩
   all_goals
    refine .ac ?_;exact aI rfl bP
  |some d=>
   rw[b]at hf;dsimp only at hf ⊢;have a2:d.name=t.name:=by
    unfold dQ at b;split at b
    ·cases b;rfl
    ·simpa using List.find?_some b
   by_cases w:d.kind=0
   ·have e0:=beT w;have en:(d.name==[])=false:=by rw[a2];exact a4
    rw[if_pos w];have j:=PJ t.name v h0 h1;generalize oU t.name v=r at j;obtain⟨rv,re⟩:=r;unfold VE.C at j;simp only at j;rcases hw with rfl|⟨rfl,q8⟩
    all_goals
     refine .ac ?_;exact aO
   ·have e0:=beF w;rw[if_neg w];by_cases x:d.kind=4
    ·have e4:=beT x;rw[if_pos x];have a1:d.aw.length<=9223372036854775807:=by have:=(iC (name:=t.name) (show s.size<=68719476736 by omega)).2.1;unfold bN at this;rw[b]at this;simp only at this;omega
     have g:=zI d.aw v.s a1;have ab:=RT v.s;unfold uI;by_cases q:v.s∈d.aw
     ·rw[decide_eq_true q]at g;rcases hw with rfl|⟨rfl,q8⟩
      ·by_cases y:v.kind=4
       ·have q4:=bnF y;rw[if_pos ⟨by rw[if_neg Wc];exact y,q⟩];refine .ac ?_;exact aO
       ·have q4:=bnT y;rw[if_neg (λh=>y (by have:=h.1;rwa [if_neg Wc]at this))];refine .ac ?_;exact aI rfl bP
      ·by_cases z:v.kind=5
       ·have q5:=bnF z;rw[if_pos ⟨by rw[if_pos rfl];exact z,q⟩];refine .ac ?_;exact aO
       ·have q5:=bnT z;rw[if_neg (λh=>z (by have:=h.1;rwa [if_pos rfl]at this))];refine .ac ?_;exact aI rfl bP
     ·rw[decide_eq_false q]at g;rw[if_neg (λh=>q h.2)];rcases hw with rfl|⟨rfl,q8⟩
      ·cases q4:(v.kind != 4)
       all_goals
        refine .ac ?_;exact aI rfl bP
      ·cases q5:(v.kind != 5)
       all_goals
        refine .ac ?_;exact aI rfl bP
    ·have e4:=beF x;rw[if_neg x];by_cases l:d.kind=5
     ·have e5:=beT l;rw[if_pos l];by_cases u:v.kind=7
      ·have q7:=bnF u;rw[if_pos u];have f:=a3 d b l u;generalize nA s a A dfl (mkM s a A dfl v.m) d=r at f;obtain⟨rv,re⟩:=r;unfold VE.C at f;simp only at f;rcases hw with rfl|⟨rfl,q8⟩
       all_goals
        refine .ac ?_;exact aO
      ·have q7:=bnT u;rw[if_neg u];rcases hw with rfl|⟨rfl,q8⟩
       all_goals
        refine .ac ?_;exact aI rfl bP
     ·have e5:=beF l;rw[if_neg l];rcases hw with rfl|⟨rfl,q8⟩
      all_goals
       refine .ac ?_;exact aI rfl bP
def La(v:AH)(hv:v.size<=1048576):AN prog 158 [v.C] (.bool (g7 fT v)):=Gt 1048576 (le_refl _) v hv
def GD(s:AI)(A:List AG)(dfl:AO->VE)(v:AH)(t:Ae)(hv:v.size<=1048576)(ht:t.name.length<=68719476736)
  (d:cC t=true->g7 fT v=true->AN prog 159 [s.C,t.C,v.C, .bool true, .bool true, .slice (List.map AG.C A) .no] (VE.C (mkV s true A dfl v t))):
  AN prog 93 [s.C,t.C,v.C, .slice (A.map AG.C) .no] (VE.C (qC s true A dfl t v)):=by
 have hr:=kX t om;have c:=La v hv;refine pER [.cell 8 43, .tmp 9] func93 (O:=VE.K _) ?_;unfold qC;cases a:cC t with
 |false=>rw[a]at hr;refine .ac ?_;exact aI rfl bP
 |true=>
  rw[a]at hr;cases b:g7 fT v with
  |false=>rw[b]at c;refine .ac ?_;exact aI rfl bP
  |true=>
   rw[b]at c;rw[if_pos ⟨rfl,rfl⟩];have hk:=d a b;generalize mkV s true A dfl v t=r at hk;obtain⟨f,e⟩:=r;unfold VE.C at hk;simp only at hk
   repeat' first|refine .br ?_|refine .s1 ?_|(refine .q ?_ ?_<;>intro O)|fail
   exact aO
def R9(s:AI)(dfl:AO->VE)(v:AH)(t:Ae)(hv:v.size<=1048576)(ht:t.name.length<=68719476736)
  (d:cC t=true->g7 fT v=true->AN prog 159 [s.C,t.C,v.C, .bool true, .bool false, .slice (List.map AG.C []) .no] (VE.C (mkV s false [] dfl v t))):
  AN prog 94 [s.C,t.C,v.C] (VE.C (qC s false [] dfl t v)):=by
 have hr:=kX t om;have c:=La v hv;refine pER [.cell 6 43, .tmp 7] func94 (O:=VE.K _) ?_;unfold qC;cases a:cC t with
 |false=>rw[a]at hr;refine .ac ?_;exact aI rfl bP
 |true=>
  rw[a]at hr;cases b:g7 fT v with
  |false=>rw[b]at c;refine .ac ?_;exact aI rfl bP
  |true=>
   rw[b]at c;rw[if_pos ⟨rfl,rfl⟩];have hk:=d a b;generalize mkV s false [] dfl v t=r at hk;obtain⟨f,e⟩:=r;unfold VE.C at hk;simp only at hk
   repeat' first|refine .br ?_|refine .s1 ?_|(refine .q ?_ ?_<;>intro O)|refine aH (hw:=AA.cons (aG _) (AA.cons (aG _) (AA.cons (aG _) (AA.cons (aG _) (AA.cons (aG _) (AA.cons (AC.no (aD _)) (aD _))))))) hk ?_|fail
   exact aO
def CU(s:AI)(dfl:AO->VE):Prop:=∀d∈s.ah,∀p∈d.params,eC s p.t.name=true->AN prog 93 [s.C,p.t.C,p.d.C, .slice [] .no] (VE.C (dfl p))
def Io(s:AI)(hs:s.size<=1048576)(b:Bool)(A:List AG)(a5:b=false->A=[])(dfl:AO->VE)(he:A.length<=68719476736)(v:AH)(t:Ae)(a:Bool)(hv:v.size<=1048576)(a6:v.ok)(i:g7 fT v=true)(hr:cC t=true)(ht:t.name.length<=68719476736)(O:eC s t.name=true\/CU s dfl)
  (a0:∀x:AH,x.size<v.size->x.ok->g7 fT x=true->∀t:Ae,cC t=true->t.name.length<=68719476736->(eC s t.name=true\/CU s dfl)->∀a:Bool,AN prog 159 [s.C,t.C,x.C, .bool a, .bool b, .slice (A.map AG.C) .no] (VE.C (qU s b A dfl a x t)))
  (q:t.ak≠0->AN prog 159 [s.C,(b7 t).C,v.C, .bool true, .bool b, .slice (A.map AG.C) .no] (VE.C (qU s b A dfl true v (b7 t)))):
  AN prog 159 [s.C,t.C,v.C, .bool a, .bool b, .slice (A.map AG.C) .no] (VE.C (qU s b A dfl a v t)):=by
 obtain⟨⟨r0,r1⟩,a7,a8⟩:=EV a6;have ad:=(fW.1 hr).2.1;by_cases n:b=true/\v.kind=8
 ·obtain⟨rfl,k8⟩:=n;exact R7 s hs a A dfl v t k8 he ht
 ·by_cases hb:v.kind=0\/t.ak=0
  ·have w:(!a&&gW b t v.kind)=false:=by unfold gW;grind
   unfold qU;rw[if_neg (by rw[w];decide)];refine PR s hs b a A dfl v t n hr hb i ht r0 r1 (λd u d5 k7=> ?_);have r:CU s dfl:=O.elim (λh=>by rw[IK u d5]at h;cases h) id;have o:=LT u d5;have ac:=lP o;have ab:=d.lens;have ae:=v.b3;have g:∀p∈d.params,p.t.name.length<=68719476736:=λp hp=>by have:=Ag.b2 hp;have:=p.lens;omega
   have hO:=Ul s hs b A v.m d.params (oY s b true A dfl (mkM s b A dfl v.m)) he om om (λp hp=>by
    have f:∀x∈v.m,cC p.t=true->g7 fT x.v=true->AN prog 159 [s.C,p.t.C,x.v.C, .bool true, .bool b, .slice (A.map AG.C) .no] (VE.C (mkV s b A dfl x.v p.t)):=λx Y h1 h2=>by obtain⟨k,hk,rfl⟩:=List.getElem_of_mem Y;exact a0 _ (dP hk) (a8 _ Y) h2 p.t h1 (g p hp) (.inr r) true
    exact MO s b true (p.has&&eC s p.t.name) A v.m dfl dfl p he om (g p hp) rfl
     (λhl x Y=>by subst hl;obtain⟨k,hk,rfl⟩:=List.getElem_of_mem Y;have:=dP hk;exact GD s A dfl _ p.t om (g p hp) (f _ Y))
     (λhl x Y=>by have a3:=a5 hl;subst hl;subst a3;obtain⟨k,hk,rfl⟩:=List.getElem_of_mem Y;have:=dP hk;exact R9 s dfl _ p.t om (g p hp) (f _ Y))
     (λ_ hl=>hl.elim (λh=>Wu) (λh=>r d o p hp h)))
   rw[<-sU]at hO;unfold nA;rw[Hj,v.bf];exact hO
  ·have k0:v.kind≠0:=λh=>hb (.inl h)
   have hl:t.ak≠0:=λh=>hb (.inr h)
   have z:=wR hr hl;by_cases j:v.kind=6
   ·have a4:∀x∈v.l,g7 fT x=true:=λx Y=>by
     rw[lM,if_pos j,and_eq_true]at i;have a2:∀l:List AH,yM fT l=true->∀x∈l,g7 fT x=true:=λl=>by
      induction l with
      |nil=>intro _ x Y;simp at Y
      |cons y l E=>
       intro h x Y;rw[yM,and_eq_true]at h;rcases List.mem_cons.1 Y with rfl|Y
       ·exact h.1
       ·exact E h.2 x Y
     exact a2 _ i.1 x Y
    have h:=PQ s b a A v t (λx=>qU s b A dfl false x (b7 t)) hr hl j hv ht (λx Y=>by obtain⟨k,hk,rfl⟩:=List.getElem_of_mem Y;exact a0 _ (dI hk) (a7 _ Y) (a4 _ Y) (b7 t) z ht O false)
    have w:(!a&&gW b t v.kind)=false:=by unfold gW;rw[j];simp
    have e:qU s b A dfl a v t=kL (λ_=>false) (λx=>qU s b A dfl false x (b7 t)) v.l:=by unfold qU kL;rw[if_neg (by rw[w];decide),rM,if_neg n,if_neg k0,if_pos ⟨hr,hl⟩,if_pos j,JY,Ol];simp only[Bool.not_false,Bool.true_and]
    rw[e];exact h
   ·have h:=R8 s b a A v t (mkV s b A dfl v (b7 t)) hr hl n k0 j ht (λ_=>by have o:=q hl;unfold qU at o;rw[if_neg Wa]at o;exact o)
    have e:qU s b A dfl a v t=if a=false then (bO,7) else if (mkV s b A dfl v (b7 t)).2≠0 then (bO,(mkV s b A dfl v (b7 t)).2) else (.mk 6 0 [] [(mkV s b A dfl v (b7 t)).1] [],0):=by
     unfold qU;have w:gW b t v.kind=true:=by
      unfold gW;have h1:decide (0<t.ak)=true:=decide_eq_true om;have h2:=bnT j;have h3:=bnT k0;have h4:(!(b&&v.kind==8))=true:=by
       rw[Bool.not_eq_true', Bool.and_eq_false_iff];by_cases c:b=true
       ·exact .inr (by simpa using λh=>n ⟨c,h⟩)
       ·exact .inl WY
      rw[h1,h2,h3,h4];rfl
     rw[w,LS n k0 j hr hl z];cases a<;>rfl
    rw[e];exact h
def Om(s:AI)(hs:s.size<=1048576)(b:Bool)(A:List AG)(e:b=false->A=[])(dfl:AO->VE)(he:A.length<=68719476736):∀N:Nat,N<=1048576->∀v:AH,v.size<=N->v.ok->g7 fT v=true->∀(j:Nat) (t:Ae),t.ak.toNat=j->cC t=true->t.name.length<=68719476736->(eC s t.name=true\/CU s dfl)->∀a:Bool,
  AN prog 159 [s.C,t.C,v.C, .bool a, .bool b, .slice (A.map AG.C) .no] (VE.C (qU s b A dfl a v t))
 |0,_,v,hv=>absurd hv Xp
 |N+1,m,v,hv=>by
  have E:=Om s hs b A e dfl he N om;intro g l j;induction j with
  |zero=>intro t hj hr ht O a;exact Io s hs b A e dfl he v t a om g l hr ht O (λx Y h d u f i c w=>E x om h d _ u rfl f i c w) (λh0=>absurd (fW.1 hr).2.1 om)
  |succ j k=>intro t hj hr ht O a;exact Io s hs b A e dfl he v t a om g l hr ht O (λx Y h d u f i c w=>E x om h d _ u rfl f i c w) (λhl=>k (b7 t) (by show (t.ak-1).toNat=j;omega) (wR hr hl) ht O true)
def Lb(s:AI)(hs:s.size<=1048576)(a:s.bz):CU s (cX s):=λd b p hp hl=>by have h1:=lP b;have h2:=Ag.b2 hp;have h3:=p.lens;have h:=GD s [] IC p.d p.t om om (λhr c=>Om s hs true [] (λh=>Wu) IC Wc 1048576 (le_refl _) p.d om (a d b p hp) c _ p.t rfl hr om (.inl hl) true);exact h
def wU(s:AI)(hs:s.size<=1048576)(a:s.bz)(A:List AG)(he:A.length<=68719476736)(v:AH)(t:Ae)(hv:v.size<=1048576)(b:v.ok)(ht:t.name.length<=68719476736):
  AN prog 93 [s.C,t.C,v.C, .slice (A.map AG.C) .no] (VE.C (qC s true A (cX s) t v)):=
 GD s A (cX s) v t hv ht (λhr c=>Om s hs true A (λh=>Wu) (cX s) he 1048576 (le_refl _) v hv b c _ t rfl hr ht (.inr (Lb s hs a)) true)
def PS(s:AI)(hs:s.size<=1048576)(a:s.bz)(v:AH)(t:Ae)(hv:v.size<=1048576)(b:v.ok)(ht:t.name.length<=68719476736):
  AN prog 94 [s.C,t.C,v.C] (VE.C (qC s false [] (cX s) t v)):=
 R9 s (cX s) v t hv ht (λhr c=>Om s hs false [] (λ_=>rfl) (cX s) Wc 1048576 (le_refl _) v hv b c _ t rfl hr ht (.inr (Lb s hs a)) true)
def aAS(A:List AG)(d:AM)(he:A.length<=68719476736)(a:d.args.length<=68719476736):AN prog 290 [.slice (A.map AG.C) .no,d.C] (.bool (Hz A d)):=by have h1:=wI sIf d.args om;have h2:=wI (bR sIf d.args).1.s A om;refine pEn 4 func290 ?_;unfold Hz;exact .wc
def EM{l:List AM}(h:k<l.length):gV name (l.take (k+1))=(gV name (l.take k)).or (if l[k].name==name then some l[k] else none):=by unfold gV;rw[take_succ_eq_append_getElem h,List.find?_append,List.find?_cons,List.find?_nil];cases l[k].name==name<;>rfl
def Da{l:List AM}(h:k<l.length)(h0:gV name (l.take k)=none)(h1:(l[k].name==name)=true):gV name l=some l[k]:=by
 have e:l=l.take k++l[k]::l.drop (k+1):=by rw[<-List.drop_eq_getElem_cons h,List.take_append_drop]
 unfold gV at h0 ⊢
 conv=>lhs;rw[e]
 rw[List.find?_append,h0,List.find?_cons,h1];rfl
def aAT(A:List AG)(l:List AM)(he:A.length<=68719476736)(hl:aA AM.size l<=68719476736):AN prog 238 [.slice (A.map AG.C) .no, .slice (l.map AM.C) .no] (.bool (iV A l)):=by
 have r:=aJ (size:=AM.size) AM.au l;refine pEn 4 func238 ?_;refine .go ?_;refine fB l AM.C (λk=>[(7, .int .i64 k),(5, .bool (gV oE (l.take k)).isSome),(6, .bool (gV fU (l.take k)).isSome),(0, .slice (A.map AG.C) .no),(1, .slice (l.map AM.C) .no)]) (λ_=>⟨[],[]⟩)
  (λk=>(∀d,gV oE (l.take k)=some d->Hz A d=false)/\(∀d,gV fU (l.take k)=some d->Hz A d=true)) ⟨λd h=>by simp[gV]at h,λd h=>by simp[gV]at h⟩ (λk h1 d1 x1 hj=> ?_) (λ_ hj=> ?_)
 ·obtain⟨u,v⟩:=hj;have hz:=aN (size:=AM.size) (getElem_mem h1);have t:l[k].size=l[k].name.length+aA AG.size l[k].args+3:=rfl;have q:=aJ AG.au l[k].args;have ht:=aAS A l[k] he om;have b:=λh0 e=>Da (name:=oE) h1 h0 e
  have f:=λh0 e=>Da (name:=fU) h1 h0 e
  have g:=EM (name:=oE) h1;have i:=EM (name:=fU) h1;generalize o:gV oE (l.take (k+1))=w at *
  generalize p:gV fU (l.take (k+1))=z at *
  generalize gV oE (l.take k)=a at *
  generalize gV fU (l.take k)=c at *
  generalize Y:l[k]=x at *
  generalize hy:Hz A x=y at *
  have m:(x.name==[115,107,105,112])=(x.name==oE):=rfl;have n:(x.name==[105,110,99,108,117,100,101])=(x.name==fU):=rfl;cases e1:x.name==oE<;>cases j:x.name==fU<;>rw[e1]at m g b<;>rw[j]at n i f<;>cases a<;>cases c<;>cases y
  all_goals
   refine .go ?_
   first|exact p5 (hr:=by unfold iV;(first|rw[b rfl rfl]|rw[f rfl rfl]);simp_all)|exact nz ⟨Xw,Xw⟩ (hs:=⟨rfl,congrArg AV.bool (by rw[o,g];rfl),congrArg AV.bool (by rw[p,i];rfl),rfl,rfl,trivial⟩)|fail
 ·rw[take_length]at hj ⊢;refine .go ?_;refine p5 (hr:= ?_);unfold iV;obtain⟨u,v⟩:=hj;cases h1:gV oE l<;>cases h2:gV fU l<;>simp_all
def Lc(s:AI)(u a:AF)(hs:s.size<=1048576):AN prog 240 [s.C, .str u, .str a] (.bool (k9 s u a)):=by
 have h1:=tZ s a hs;have h2:=zI (jK s a) u (by have:=sR s a om;omega);refine pEn 6 func240 ?_;unfold k9;cases b:a==[]<;>cases hr:a==u
 all_goals
  exact .wc
def Sa(l:List Sl)(hl:aA Sl.size l<=68719476736):AN prog 103 [.slice (l.map Sl.C) .no] (.slice ((bM l).map Sl.C) .no):=by
 have e:=aJ Sl.au l;have b:∀l:List Sl,(bM l).length<=aA Sl.size l:=λl=>by
  unfold bM;induction l with
  |nil=>exact le_refl _
  |cons x l E=>have h1:=x.ax;have h2:=aJ Sl.au x.O;rw[List.flatMap_cons,length_append,aA];omega
 refine pEn 2 func103 ?_;refine .go ?_;refine KM l Sl.C Sl.C 7 (λk=>bM (l.take k)) 3 (λk=>[(4, .int .i64 k),(0, .slice (l.map Sl.C) .no)]) rfl (λk h1 o x1 p=> ?_) (λ_=> ?_) aZ
 ·have d:bM (l.take (k+1))=bM (l.take k)++l[k].O:=by unfold bM;rw[take_succ_eq_append_getElem h1,List.flatMap_append];simp
  have m:=b (l.take k);have h:=gO (f:=Sl.size) h1;have g:=fO Sl.size l (k+1);have j:=l[k].ax;have i:=aJ Sl.au l[k].O;have a:=FT l[k].O;have c:=l[k].cj;rw[<-l[k].bb]at a;generalize bM (l.take k)=ys at *
  generalize l[k]=x at *
  repeat' first|refine .br ?_|refine .s1 ?_|(refine .q ?_ ?_<;>intro O)|refine bU (n:=ys.length) (hf:=a) (hb:=by dsimp only;omega) (hb':= by omega) (length_map ..) ?_|fail
  exact ny (ys++x.O) d (h0:=by rw[map_append, <-x.bb];rfl) (h4:=by rw[length_append, <-c];rfl)
 ·rw[take_length];refine .go ?_;exact Fin.rg
def aCW(s:AI)(hs:s.size<=1048576)(o:s.bz)(ps:List AO)(g:List AG)(aa:aA AO.size ps<=1048576)(a1:∀p∈ps,p.d.ok)(hg:aA AG.size g<=1048576)(y:∀m∈g,m.v.ok):
  AN prog 15 [s.C, .slice (ps.map AO.C) .no, .slice (g.map AG.C) .no] (.tup [.slice ((GX s ps g).1.map AG.C) .no, .int .i64 (GX s ps g).2]):=by
 have hG:∀p∈ps,AN prog 43 [s.C,p.t.C,(bR p.name g).1.C, .bool (bR p.name g).2, .bool p.has,p.d.C, .bool false, .slice (List.map AG.C []) .no] (M3.C (Jz (oY s false false [] (lC s) (mkM s false [] (cX s) g) p))):=λp hp=>by
  have h1:=aN (size:=AO.size) hp;have h2:=p.lens;refine MO s false false p.has [] g (cX s) (lC s) p Wc (by have:=aJ AG.au g;omega) om Wa (λh=>Wu) (λ_ x Y=> ?_) (λ_ _=> ?_)
  ·have h3:=aN (size:=AG.size) Y;have h4:x.size=x.name.length+2+x.v.size:=rfl;exact PS s hs o x.v p.t om (y x Y) om
  ·exact wU s hs o [] Wc p.d p.t om (a1 p hp) om
 have wk:∀(a b c d e f h:AV) (t:Tk),AA [a,b,c,d,e,f,h, .slice [] t] [a,b,c,d,e,f,h, .slice (List.map AG.C []) .no]:=λa b c d e f h t=>AA.cons (aG _) (AA.cons (aG _) (AA.cons (aG _) (AA.cons (aG _) (AA.cons (aG _) (AA.cons (aG _) (AA.cons (aG _) (AA.cons (AC.no (aD _)) (aD _))))))))
 refine AQ.plain XK XG (cK [6,7] func15 ?_);unfold GX;rw[sU];generalize oY s false false [] (lC s) (mkM s false [] (cX s) g)=R at hG;have hpl:=aJ AO.au ps;have a9:=aJ AG.au g;refine .ac ?_;refine eJ 8 true 6 rfl ?_;refine bK (hj:=uV R ps) ps.length (λk=>[(9, .int .i64 k),(1, .slice (ps.map AO.C) .no),(2, .slice (g.map AG.C) .no),(3, .ab s.C),(8, .slice ((dZ R (ps.take k)).map AG.C) (.own 0 6))]) (λk=>⟨[],[.len (dZ R (ps.take k)).length]⟩) (vB R ps) Z0 λk hk l=> ?_
 by_cases h2:k<ps.length
 ·have d2:=ltT h2;have x2:=aU (f:=AO.C) h2;have z:=wI ps[k].name g om;have i:=hG ps[k] (getElem_mem h2);have je:=yJ h2 l;have jn:=uW h2 l;have a0:=sV R (ps.take k);rw[length_take]at a0;have j:dZ R (ps.take (k+1))=dZ R (ps.take k)++(if (R ps[k]).2.1=true then [.mk ps[k].name (R ps[k]).1] else []):=by rw[take_succ_eq_append_getElem h2,pN,dZ,dZ,append_nil]
  generalize R ps[k]=r at i je jn j;obtain⟨rv,rb,re⟩:=r;unfold M3.C Jz at i;simp only at i je jn j;generalize bR ps[k].name g=gv at z i;by_cases w:re=0
  ·subst w;have u:=jn rfl;simp only[decide_true,Bool.and_true]at i;cases rb with
   |true=>
    rw[if_pos rfl]at j;repeat' first|refine .br ?_|refine bH (d:=10) ?_|refine bY 10 rfl (aY) ?_|refine .s1 ?_|(refine .q ?_ ?_<;>intro O)|refine aX (agg:=true) ?_|refine aH (hw:=wk _ _ _ _ _ _ _ _) i ?_|refine bU (n:=(dZ R (ps.take k)).length) (length_map ..) ?_|fail
    exact⟨h2,⟨rfl,rfl,rfl,rfl,by rw[j,map_append];rfl,trivial⟩,Wg,Wf,by rw[j,length_append];rfl,u⟩
   |false=>
    rw[if_neg Wc,append_nil]at j;repeat' first|refine .br ?_|refine bH (d:=10) ?_|refine bY 10 rfl (aY) ?_|refine .s1 ?_|(refine .q ?_ ?_<;>intro O)|refine aX (agg:=true) ?_|refine aH (hw:=wk _ _ _ _ _ _ _ _) i ?_|refine bU (n:=(dZ R (ps.take k)).length) (length_map ..) ?_|fail
    exact⟨h2,⟨rfl,rfl,rfl,rfl,YA,trivial⟩,Wg,Wf,YA,u⟩
  ·have a8:(re != 0)=true:=by simpa using w
   rw[je w];repeat' first|refine .br ?_|refine bH (d:=10) ?_|refine bY 10 rfl (aY) ?_|refine .s1 ?_|(refine .q ?_ ?_<;>intro O)|refine aX (agg:=true) ?_|refine aH (hw:=wk _ _ _ _ _ _ _ _) i ?_|refine bU (n:=(dZ R (ps.take k)).length) (length_map ..) ?_|fail
   exact n9 rfl rfl (AC.tup (AA.cons (AC.no (aD _)) (aD _)))
 ·have d2:=ltF h2;obtain rfl:k=ps.length:=om
  rw[yK l];refine .go ?_;refine n9 rfl rfl (AC.tup (AA.cons (AC.no (AA.eq ?_)) (aD _)));rw[take_length]
def Um(s:AI)(hs:s.size<=1048576)(e:s.bz)(A:List AG)(he:A.length<=68719476736)(ps:List AO)(g:List AG)(a6:aA AO.size ps<=1048640)(y:∀p∈ps,p.d.ok)(w:∀p∈ps,p.d.size<=1048576)(hg:aA AG.size g<=1048576)(l:∀m∈g,m.v.ok):
  AN prog 98 [s.C, .slice (ps.map AO.C) .no, .slice (g.map AG.C) .no, .slice (A.map AG.C) .no] (.tup [.slice ((dV s ps g A).1.map AG.C) .no, .int .i64 (dV s ps g A).2]):=by
 have hG:∀p∈ps,AN prog 43 [s.C,p.t.C,(bR p.name g).1.C, .bool (bR p.name g).2, .bool p.has,p.d.C, .bool true, .slice (A.map AG.C) .no] (M3.C (Jz (oY s true false A (lC s) (mkM s true A (cX s) g) p))):=λp hp=>by
  have h1:=aN (size:=AO.size) hp;have h2:=p.lens;refine MO s true false p.has A g (cX s) (lC s) p he (by have:=aJ AG.au g;omega) om Wa (λ_ x Y=> ?_) (λh=>Wu) (λ_ _=> ?_)
  ·have h3:=aN (size:=AG.size) Y;have h4:x.size=x.name.length+2+x.v.size:=rfl;exact wU s hs e A he x.v p.t om (l x Y) om
  ·exact wU s hs e [] Wc p.d p.t (w p hp) (y p hp) om
 refine AQ.plain XK XG (cK [8,9] func98 ?_);unfold dV;rw[sU];generalize oY s true false A (lC s) (mkM s true A (cX s) g)=R at hG;have hpl:=aJ AO.au ps;have a5:=aJ AG.au g;refine .ac ?_;refine eJ 10 true 6 rfl ?_;refine bK (hj:=uV R ps) ps.length (λk=>[(11, .int .i64 k),(1, .slice (ps.map AO.C) .no),(2, .slice (g.map AG.C) .no),(3, .slice (A.map AG.C) .no),(4, .ab s.C),(10, .slice ((dZ R (ps.take k)).map AG.C) (.own 0 6))]) (λk=>⟨[],[.len (dZ R (ps.take k)).length]⟩) (vB R ps) Z0 λk hk c=> ?_
 by_cases h2:k<ps.length
 ·have d2:=ltT h2;have x2:=aU (f:=AO.C) h2;have o:=wI ps[k].name g om;have a:=hG ps[k] (getElem_mem h2);have z:=yJ h2 c;have jn:=uW h2 c;have u:=sV R (ps.take k);rw[length_take]at u;have b:dZ R (ps.take (k+1))=dZ R (ps.take k)++(if (R ps[k]).2.1=true then [.mk ps[k].name (R ps[k]).1] else []):=by rw[take_succ_eq_append_getElem h2,pN,dZ,dZ,append_nil]
  generalize R ps[k]=r at a z jn b;obtain⟨rv,rb,re⟩:=r;unfold M3.C Jz at a;simp only at a z jn b;generalize bR ps[k].name g=gv at o a;by_cases j:re=0
  ·subst j;have i:=jn rfl;simp only[decide_true,Bool.and_true]at a;cases rb with
   |true=>
    rw[if_pos rfl]at b;repeat' first|refine .br ?_|refine bH (d:=13) ?_|refine bY 13 rfl (aY) ?_|refine .s1 ?_|(refine .q ?_ ?_<;>intro O)|refine aX (agg:=true) ?_|refine aH a ?_|refine bU (n:=(dZ R (ps.take k)).length) (length_map ..) ?_|fail
    exact⟨h2,⟨rfl,rfl,rfl,rfl,rfl,Y6,trivial⟩,Wg,Wf,Yq,i⟩
   |false=>
    rw[if_neg Wc,append_nil]at b;repeat' first|refine .br ?_|refine bH (d:=13) ?_|refine bY 13 rfl (aY) ?_|refine .s1 ?_|(refine .q ?_ ?_<;>intro O)|refine aX (agg:=true) ?_|refine aH a ?_|refine bU (n:=(dZ R (ps.take k)).length) (length_map ..) ?_|fail
    exact⟨h2,⟨rfl,rfl,rfl,rfl,rfl,Wz,trivial⟩,Wg,Wf,Wz,i⟩
  ·have a4:(re != 0)=true:=by simpa using j
   rw[z j];repeat' first|refine .br ?_|refine bH (d:=13) ?_|refine bY 13 rfl (aY) ?_|refine .s1 ?_|(refine .q ?_ ?_<;>intro O)|refine aX (agg:=true) ?_|refine aH a ?_|refine bU (n:=(dZ R (ps.take k)).length) (length_map ..) ?_|fail
   exact n9 rfl rfl (AC.tup (AA.cons (AC.no (aD _)) (aD _)))
 ·have d2:=ltF h2;obtain rfl:k=ps.length:=om
  rw[yK c];refine .go ?_;refine n9 rfl rfl (AC.tup (AA.cons (AC.no (AA.eq ?_)) (aD _)));rw[take_length]
end Go.Proofs.YtdodieljpcfpcaaGreatDoor
namespace Go.Av
open Go
section rules
variable [AK] {P:Program} [Lay P] {A:Array Oper} {G:Bool} {K:AX->AE->St->Prop} {C:List Oper} {I:List Ak} {s:AE} {H:St}
variable {d:Tmp} {R:TypeId} {D:String} {S:Array Edge}
def Hw{T:TypeId}{len k z:Nat}{f:Array (Nat×Operand)}{q c:TI}{xs:List AV}{T': List Tok}(hT:ty? P T=some q)(hk:q.kind = .slice)(hE:ty? P q.elem=some c)(hz:c.size=z)(a1:(c.agg||Nat.beq c.size 1)=true)(y:Nat.ble (len * c.size) 16777216=true)(a9:Nat.ble len 16777216=true)
  (hv:Ed (λi=>some (i * c.size,c.size)) s f.toList (List.replicate (len * c.size) .undef) (λcs=>Ds c.agg c.size len cs λxs=>some (AV.slice xs .full))=some (AV.slice xs .full))
  (aj:dM H.T=some k) (hT': kU H.T (.Y xs) some=some T')
  (kk:AD P A G K C (.tk::I) ((d, .Y k z len 0 len)::s) ⟨H.B,T'⟩):AD P A G K (⟨some d, .buildSlice T len f,R,D,S,none⟩::C) I s H:=
 bT (t := .tk) (σ':= ⟨H.B,T'⟩) rfl ⟨rfl,λB=>by
  intro g w a next Q hI ho hn
  subst hz
  obtain⟨ay,dd,z0,t1,t2,t3,t4,_⟩:=(eK hT).ex
  have hd:∃e,dd = .slice e:=Wi
  obtain⟨el,rfl⟩:=hd
  have ai:el=q.elem:=t4
  subst ai
  obtain⟨z,hz,ba,ao,ap⟩:=nQ hE w
  let z': Array Value:=if len * c.size=0 then #[] else z.cells
  let c0:Array Value:=(Array.range (len * c.size)).map (λi=>z'[i % z'.size]!)
  have ah:∀u∈c0.toList,u.oneCell'= true:=by
   intro u hu
   simp only[c0,Array.toList_map,List.mem_map,Array.mem_toList_iff,Array.mem_range]at hu
   obtain⟨i,X,rfl⟩:=hu
   have m:len * c.size≠0:=om
   have a5:z'= z.cells:=if_neg m
   rw[a5]
   have hpos:0<z.cells.size:=by
    rw[ao]
    rcases Nat.eq_zero_or_pos c.size with e|e
    ·rw[e]at m;simp at m
    ·exact e
   have hlt:i % z.cells.size<z.cells.size:=Nat.mod_lt _ hpos
   rw[getElem!_pos z.cells _ hlt]
   exact ap _ Wa
  have aa:AL g w (List.replicate (len * c.size) .undef) c0.toList:=by
   have:∀(l:List Value),AL g w (List.replicate l.length .undef) l:=by
    intro l
    induction l with
    |nil=>rfl
    |cons v l E=>exact⟨v,l,rfl,trivial,E⟩
   have h:=this c0.toList
   rwa [show c0.toList.length=len * c.size by simp[c0]]at h
  obtain⟨ae,cells', e1,e2,e3,e4,e5⟩:=sY (g:=g) (w:=w) (a:=a) f.toList _ c0 _ _ hv (λp hp=>ho p.2 WG) aa ah
  have ac:c.agg=false->c.size=1:=by
   intro e
   rw[e]at a1
   exact Nat.eq_of_beq_eq_true (by simpa using a1)
  obtain⟨xs', Vs,f1,f2,f3,f4,f5⟩:=vG ac len ae cells'.toList _ _ e5 e3 e4
  have am:xs=xs':= by
   have h0:AV.slice xs' .full=AV.slice xs .full:=Option.some.inj f1
   injection h0 with h1 _
   exact h1.symm
  subst am
  have a7:cells'.size=len * c.size:=by rw[e2];simp[c0]
  have a2:flat Vs=cells'.toList:=by rw[f5,take_of_length_le];simp[a7]
  have an:xs.length=len:=f3.length.symm.trans f2
  have ag:H.T++[.Y xs]=T':= Option.some.inj (eX _ _ _ _ hT')
  have a8:H.T.length=k:=dG aj
  have a3:g.tk[k]? =none:=by
   have hlt:g.tk.length=H.T.length:=hI.lenT
   rw[<-a8, <-hlt];simp
  have a4:∀b o,(⟨some ⟨w.heap.size,0,none⟩,len,len,c.size,0⟩:A9).az b o->b=w.heap.size/\o<cells'.size:=by
   rintro b o ⟨p,hp,rfl,e1,e2⟩
   cases hp
   refine⟨rfl, ?_⟩
   rw[a7]
   simpa using e2
  obtain⟨g', n1,n2,n3,_⟩:=Kl (k:=k) (r':= ⟨some ⟨w.heap.size,0,none⟩,len,len,c.size,0⟩) (t' := .Y xs) (J:=λ_ _=>False) hI (w':= dN w (.cells cells' q.elem)) (.inr ⟨a8.symm,rfl⟩)
   X5 rfl rfl rfl (λb hb _=>cO w _ hb) (λb o hb _=>(cF (cO w _ hb)).1) (λb o hb=>(cF (cO w _ hb)).2) (λ_ _ h=>h.elim)
   (λb o ho=>by
    obtain⟨rfl,h2⟩:=a4 b o ho
    exact⟨⟨cells'[o],(dW w cells' q.elem o).trans (Array.getElem?_eq_getElem h2)⟩,j9 w cells' q.elem o, .inl (le_refl _)⟩)
   (λr hr=>by rw[a3]at hr;cases hr)
   (λg' ak=>⟨an.symm,rfl,le_refl _,Vs,AL.mono ak _ _ f3,(λe=>by cases e),f4,(λp hp=>by
    cases hp
    refine⟨.inl rfl,fK f4 λj u hj=> ?_⟩
    rw[a2]at hj
    refine⟨trivial, ?_,e4 u (List.mem_of_getElem? hj)⟩
    show (dN w (.cells cells' q.elem)).cell? ⟨w.heap.size,0+j,none⟩=some u
    rw[Nat.zero_add]
    exact(dW w cells' q.elem j).trans Xl)⟩)
  have ab:(execOp a.eval ⟨some d, .buildSlice T len f,R,D,S,none⟩).run P w = .ok (.value (.slice (some ⟨w.heap.size,0,none⟩) len len)) (dN w (.cells cells' q.elem)):=by
   have hs:¬(len * c.size>2 ^ 24):=by
    have:=Nat.le_of_ble_eq_true y
    omega
   have n:∀zz:Array Value,zz=z'-> Instr.fill (λi=>some (i * c.size,c.size)) ((Array.range (len * c.size)).map (λx=>zz[x % zz.size]!)) (f.map λx=>(x.1,a.eval x.2)).toList=some cells':= by
    intro zz a5
    subst a5
    rw[<-e1]
    congr 1
    simp
   simp only[execOp,Instr.buildSlice,Sem.run_bind,run_underlying t2,Result.andThen,cZ hE,if_neg hs]
   by_cases m:len * c.size=0
   ·have h0:=n #[] (show #[]=z' from (if_pos m).symm)
    rw[if_pos m]
    simp only[Sem.run_bind,Sem.run_pure,Result.andThen,h0]
    rfl
   ·have h0:=n z.cells (show z.cells=z' from (if_neg m).symm)
    rw[if_neg m]
    simp only[Sem.run_bind,Sem.run_pure,Result.andThen,hz,h0]
    rfl
  unfold Oper.wp
  rw[ab]
  refine hn _ _ _ n1 (ag▸n2) ⟨some ⟨w.heap.size,0,none⟩,len,rfl,Nat.zero_le _,le_refl _,le_refl _, ?_,(λ_=>⟨_,_,rfl⟩),_,n3,rfl,le_refl _,λ_=>⟨rfl,rfl,λ_=>⟨_,rfl,rfl,Wa⟩⟩⟩
  have:=Nat.le_of_ble_eq_true a9
  unfold maxLen
  omega⟩ kk
end rules
end Go.Av
namespace Go.Proofs.YtdodieljpcfpcaaGreatDoor
open Go Go.Av Go.Proofs.Tryz
def fN(s:AI)(d:AR)(A:List AG)(u:AF):Nat->List Sl->Gs->Gs
 |_,[],g=>g
 |n, .mk k a nm ar di on se::l,g=>
  let x:=Sl.mk k a nm ar di on se
  fN s d A u n l (
   if iV A di=false then g
   else if k=0 then ⟨g.met,kP x g.out⟩
   else if k=1 then
    (if nm∈g.met then g else match iT d nm with
     |none=>g
     |some f=>if k9 s u f.on=true then (match n with
       |0=>⟨g.met++[nm],g.out⟩
       |n+1=>fN s d A u n f.O ⟨g.met++[nm],g.out⟩) else ⟨g.met++[nm],g.out⟩)
   else if k=2 then (if k9 s u on=true then fN s d A u n se g else g)
   else g)
termination_by n l=>(n,fS l)
decreasing_by
 all_goals simp_wf
 all_goals simp only[fS,Sl.size]
 all_goals first|exact Prod.Lex.left _ _ (Nat.lt_succ_self _)|(apply Prod.Lex.right;omega)
def p8(s:AI)(d:AR)(A:List AG)(u:AF)(n:Nat)(x:Sl)(g:Gs):Gs:=
 if iV A x.ao=false then g
 else if x.kind=0 then ⟨g.met,kP x g.out⟩
 else if x.kind=1 then
  (if x.name∈g.met then g else match iT d x.name with
   |none=>g
   |some f=>if k9 s u f.on=true then (match n with
     |0=>⟨g.met++[x.name],g.out⟩
     |n+1=>fN s d A u n f.O ⟨g.met++[x.name],g.out⟩) else ⟨g.met++[x.name],g.out⟩)
 else if x.kind=2 then (if k9 s u x.on=true then fN s d A u n x.O g else g)
 else g
theorem pL(s:AI)(d:AR)(A:List AG)(u:AF)(n:Nat)(g:Gs):fN s d A u n [] g=g:=by rw[fN]
theorem nV(s:AI)(d:AR)(A:List AG)(u:AF)(n:Nat)(x:Sl)(l:List Sl)(g:Gs):fN s d A u n (x::l) g=fN s d A u n l (p8 s d A u n x g):=by cases x;rw[fN];rfl
theorem Ip(s:AI)(d:AR)(A:List AG)(u:AF)(n:Nat):∀(a b:List Sl) (g:Gs),fN s d A u n (a++b) g=fN s d A u n b (fN s d A u n a g)
 |[],b,g=>by rw[List.nil_append,pL]
 |x::a,b,g=>by rw[List.cons_append,nV,Ip s d A u n a b,nV]
def MS(s:AI)(d:AR)(A:List AG)(u:AF)(n:Nat){l:List Sl}(h:k<l.length)(g:Gs):
  fN s d A u n (l.take (k+1)) g=p8 s d A u n l[k] (fN s d A u n (l.take k) g):=by rw[take_succ_eq_append_getElem h,Ip,nV,pL]
def Ax(d:AR)(g h:Gs):Prop:=g.out=h.out/\∀f∈d.ai,f.name∈g.met↔f.name∈h.met
theorem JE(d:AR)(g:Gs):Ax d g g:=⟨rfl,λ_ _=>Iff.rfl⟩
def Ax.snoc{d:AR}(r:Ax d g h)(nm:AF):Ax d ⟨g.met++[nm],g.out⟩ ⟨h.met++[nm],h.out⟩:=⟨r.1,λf hf=>by simp only[List.mem_append];rw[r.2 f hf]⟩
def Sb(s:AI)(d:AR)(A:List AG)(u:AF)(n N:Nat)(i:∀m,n=m+1->∀l g h,Ax d g h->Ax d (fV s d A u m l g) (fN s d A u m l h))
  (E:∀l g h,aA Sl.size l<=N->Ax d g h->Ax d (fV s d A u n l g) (fN s d A u n l h)) (x:Sl) (o:aA Sl.size x.O<=N) (g h:Gs) (r:Ax d g h):
  Ax d (jS s d A u n x g) (p8 s d A u n x h):=by
 unfold jS p8;split
 ·exact r
 split
 ·exact⟨by dsimp only;rw[r.1],r.2⟩
 split
 ·cases hf:iT d x.name with
  |none=>
   have hno:∀f∈d.ai,f.name≠x.name:=λf a e=>by unfold iT at hf;have:=List.find?_eq_none.1 hf f a;simp[e]at this
   have j:Ax d (if x.name∈g.met then g else ⟨g.met++[x.name],g.out⟩) h:=by
    split
    ·exact r
    ·refine⟨r.1,λf a=> ?_⟩;rw[<-r.2 f a];simp only[List.mem_append,List.mem_singleton,hno f a,or_false]
   have k:(if x.name∈h.met then h else h)=h:=by split<;>rfl
   dsimp only;rw[k];exact j
  |some f=>
   obtain⟨a,b⟩:=jO hf;have X:=r.2 f a;rw[b]at X;by_cases c:x.name∈g.met
   ·rw[if_pos c,if_pos (X.1 c)];exact r
   ·rw[if_neg c,if_neg (λq=>c (X.2 q))];dsimp only;split
    ·cases n with
     |zero=>exact r.snoc _
     |succ m=>exact i m rfl f.O _ _ (r.snoc _)
    ·exact r.snoc _
 split
 ·split
  ·exact E x.O g h o r
  ·exact r
 ·exact r
def Fd(s:AI)(d:AR)(A:List AG)(u:AF)(n:Nat)(a:∀m,n=m+1->∀l g h,Ax d g h->Ax d (fV s d A u m l g) (fN s d A u m l h)):∀(N:Nat) (l:List Sl) (g h:Gs),aA Sl.size l<=N->Ax d g h->Ax d (fV s d A u n l g) (fN s d A u n l h)
 |_,[],g,h,_,r=>by rw[fP,pL];exact r
 |0,x::l,g,h,hl,r=>by rw[aA]at hl;have:=x.au;omega
 |N+1,x::l,g,h,hl,r=>by
  rw[aA]at hl
  have Y:=x.ax
  have hp:=x.au
  rw[gG,nV]
  exact Fd s d A u n a N l _ _ om (Sb s d A u n N a (λl g h hl r=>Fd s d A u n a N l g h hl r) x om g h r)
theorem Db(s:AI)(d:AR)(A:List AG)(u:AF):∀(n:Nat) (l:List Sl) (g h:Gs),Ax d g h->Ax d (fV s d A u n l g) (fN s d A u n l h)
 |0,l,g,h,r=>Fd s d A u 0 (λm h=>absurd h om) _ l g h (le_refl _) r
 |n+1,l,g,h,r=>Fd s d A u (n+1) (λm h l g a r=>(Nat.succ.inj h)▸Db s d A u n l g a r) _ l g h (le_refl _) r
theorem Un(s:AI)(d:AR)(A:List AG)(u:AF)(l:List Sl):(fN s d A u d.ai.length l ⟨[],[]⟩).out=bG s d A u l:=(Db s d A u _ l _ _ (JE d _)).1.symm
attribute [local irreducible] AB AD AN AQ Av.AS AZ
def wV(s:AI)(d:AR)(A:List AG)(u:AF)(met:List AF)(o:AV):List AV:=
 [.slice (s.ah.map Ag.C) .no, .str s.query, .str s.ar, .slice (d.ops.map Aj.C) .no, .slice (d.ai.map Af.C) .no, .slice (A.map AG.C) .no, .str u, .slice (met.map AV.str) (.own 0 1),o]
def pgT(m:Gs):List Tok := .len m.met.length :: .Y (cT 1 m.out)::m.out.map λg => .Y (g.O.map Sl.C)
def pgB(s:AI)(d:AR)(A:List AG)(u:AF)(met:List AF)(n:Nat):List Ob:=[.cells (wV s d A u met (.Y 1 2 n 0 n))]
def pgS(s:AI)(d:AR)(A:List AG)(u:AF)(m:Gs):St:=⟨pgB s d A u m.met m.out.length,pgT m⟩
theorem iR(m:Gs):(pgT m).length=m.out.length+2:=by rw[pgT,List.length_cons,List.length_cons,length_map]
def l5(n:Nat)(m:Gs):aL n (pgT m).length (pgT m)=true:=by
 have h:=D7 n 1 m.out (pgT m).length Xi;have h2:∀(l:List AW) (k:Nat),aL n k (l.map λg=>Tok.Y (g.O.map Sl.C))=true:=λl k=>by
  induction l with
  |nil=>rfl
  |cons g l E=>rw[List.map_cons,aL,E,Tok.aa,aC _ _ _ (aZ _)];rfl
 rw[pgT,aL,aL,h2,Tok.aa,Tok.aa];rw[pgT]at h;rw[h];rfl
def uC(s:AI)(d:AR)(A:List AG)(u:AF)(met:List AF)(n m:Nat)(h:1<m):aQ 1 m (pgB s d A u met n)=true:=by have h0:aE 1 m (met.map AV.str)=true:=aC _ _ _ (aR _);simp[pgB,wV,aQ,Ob.aa,aE,AV.aa,h,h0,aC,dS,mB,jX,aT];omega
def nzS[AK]{S:Nat->AE}{Z:Nat->St}{J:Nat->Prop}{H:St}{s': AE}(b:J (k+1))(hs:Av.Sub (S (k+1)) s')(hb:aM H.B.length H.T.length (S (k+1))=true)(a:aQ H.B.length H.T.length H.B=true)(hT:aL H.B.length H.T.length H.T=true)(hz:H=Z (k+1)):Nz S Z J H k s' H:=
 ⟨hs,hb,by rw[take_length,take_length,a,hT];rfl,by rw[take_length,take_length];exact hz,b⟩
def On{s:AI}{d:AR}{A:List AG}{u:AF}{f:FuncId}{args:List AV}{m R:Gs}(hl:m.out.length<=R.out.length)
  (h:AQ prog f args (pgS s d A u m) (λe b=>∃v a,e = .ret v/\AJ b v a (.tup [])/\a.B.take 1=pgB s d A u R.met R.out.length/\a.T.take (pgT R).length=pgT R)):
  AQ prog f args (pgS s d A u m) (λe σ'=> e = .ret (.tup [])/\σ'= pgS s d A u R):=
 gM (nB:=1) (mT:=(pgT R).length) (ht:=(by show (pgT m).length<=_;rw[iR,iR];omega)) h rfl (uC s d A u R.met R.out.length _ Xi) (l5 _ _)
def Sc{a b w:Tok}{S:List Tok}{j:Nat}(h:j<S.length):(a::b::S.set j w)[j+1+1]? =some w:=by rw[List.getElem?_cons_succ];exact LE h
def aCX(s:AI)(d:AR)(A:List AG)(u:AF)(m:Gs)(x:Sl)(hl:m.out.length<=68719476736)(hs:∀g∈m.out,g.O.length<=68719476736):
  AQ prog 239 [.ptr 0 0,x.C] (pgS s d A u m) (λe σ'=> e = .ret (.tup [])/\σ'= pgS s d A u ⟨m.met,kP x m.out⟩):=by
 obtain⟨met,a⟩:=m;simp only at hl hs;have hk:=RD x;have hn:=sS 1 a;have h:=uC s d A u met a.length (pgT ⟨met,a⟩).length Xi;have o:=l5 1 ⟨met,a⟩;refine On (xF x a) (cK [] func239 ?_);unfold pgS pgB wV
 repeat' first|refine .br ?_|refine .s1 ?_|(refine .q ?_ ?_<;>intro O)|fail
 refine fB a (z8 0) (λk=>[(5, .int .i64 k),(4, .str (jL x)),(3, .ab x.C),(0, .ptr 0 0)]) (λ_=>⟨pgB s d A u met a.length,pgT ⟨met,a⟩⟩) (λk=>bE (λg:AW=>g.key==jL x) a 0=bE (λg:AW=>g.key==jL x) (a.drop k) k) rfl (λk h1 w _ hj=> ?_) (λw hj=> ?_)
 ·rw[cP h1]at hj;have hy:(cT 1 a)[k]? =some (z8 (k+1) a[k]):=by rw[D5 1 a k h1,Nat.add_comm 1 k]
  unfold pgB wV at h;unfold pgT at h o;unfold pgB wV pgT;cases v:(a[k].key==jL x)<;>rw[v]at hj
  ·repeat' first|refine .s1 ?_|(refine .q ?_ ?_<;>intro O)|refine bZ ?_|refine jH ?_|refine fM (hlt:=by omega) ?_|refine fF (hn:=hn) (hy:=hy) ?_|fail
   exact nzS hj Z0 (by simp[aM,AV.aa,aF,Sl.K]) h o rfl
  ·have hS:(Tok.len met.length :: .Y (cT 1 a)::a.map λg=>Tok.Y (g.O.map Sl.C))[k+1+1]? =some (.Y (a[k].O.map Sl.C)):=by rw[List.getElem?_cons_succ,List.getElem?_cons_succ];simp[h1]
   have p:k<(a.map λg=>Tok.Y (g.O.map Sl.C)).length:=by simpa using h1
   have r:k+1+1<(Tok.len met.length :: .Y (cT 1 a)::a.map λg=>Tok.Y (g.O.map Sl.C)).length:=Wh
   have c:(a[k].O.map Sl.C).length=a[k].O.length:=length_map _;have hz:=hs _ (getElem_mem h1);have e1:kP x a=a.set k ⟨a[k].key,a[k].O++[x]⟩:=IG h1 hj;have n:(cT 1 (a.set k ⟨a[k].key,a[k].O++[x]⟩))=(cT 1 a).set k (z8 (k+1) ⟨a[k].key,a[k].O++[x]⟩):=by rw[<-D6,Nat.add_comm 1 k]
   have f:((a.set k ⟨a[k].key,a[k].O++[x]⟩).map λg=>Tok.Y (g.O.map Sl.C))=(a.map λg=>Tok.Y (g.O.map Sl.C)).set k (.Y (a[k].O.map Sl.C++[x.C])):=by rw[List.map_set,map_append];rfl
   have i:((a.set k ⟨a[k].key,a[k].O++[x]⟩).length)=a.length:=List.length_set ..
   rw[e1];dsimp only;rw[i,n,f]
   repeat' first|refine OP rfl rfl rfl rfl rfl Wc Wc WQ (λb=> ?_)|refine bZ ?_|refine .s1 ?_|(refine .q ?_ ?_<;>intro O)|refine fM (hlt:=by omega) ?_|refine fF (hn:=hn) (hy:=hy) ?_|refine jH ?_|refine eI (hTk:=hS) (hb:=Wv) (hT':= gN r) c ?_|refine aX (agg:=true) (hn:=hn) (he:=hy) ?_|refine fM (j:=a[k].O.length) (hlt:=Wv) ?_|refine aX (agg:=true) (hTk:=Sc p) (hn:=(by rw[length_append,c])) (he:=xE _ _ c) (hT':= (gN (by simp only[List.length_cons,List.length_set];omega))) ?_|fail
   ·refine⟨_,_,rfl,eU _ _,rfl, ?_⟩;rw[take_of_length_le Wa];show _::_::List.set (List.set _ k _) k _=_;rw[List.set_set,sT _ _ _ c];simp only[z8,length_append];rfl
   ·refine⟨_,_,rfl,eU _ _,rfl, ?_⟩;rw[take_of_length_le Wa];simp only[z8,length_append];rfl
 ·rw[List.drop_length,bE]at hj;have l:a.find? (λg=>g.key==jL x)=none:=by
   rcases eV (λg:AW=>g.key==jL x) a 0 with⟨_,q⟩|⟨j,_,q,_⟩
   ·exact q
   ·rw[q]at hj;omega
  rw[D8 l];unfold pgB wV pgT;dsimp only;have t:dM (Tok.len met.length :: .Y (cT 1 a)::a.map λg=>Tok.Y (g.O.map Sl.C))=some (1+a.length+1):=by rw[oM];simp;omega
  repeat' first|refine bZ ?_|refine Hw (len:=1) (xs:=[x.C]) rfl rfl rfl rfl rfl rfl rfl rfl t (oN _ _ _) ?_|refine .s1 ?_|(refine .q ?_ ?_<;>intro O)|refine jH ?_|refine eI (hb:=Wv) hn ?_|fail
  refine⟨_,_,rfl,eU _ _, ?_, ?_⟩
  ·rw[length_append];rfl
  ·rw[take_of_length_le Wa,D4,map_append];rfl
end Go.Proofs.YtdodieljpcfpcaaGreatDoor
namespace Go.Av
open Go
def Dc[AK]{P:Program}{N:Nat}{D:List Deferred}{K:AX->AE->St->Prop}{s:AE}{H:St}{x y:Code}(b:Nat)(q:aQ H.B.length H.T.length H.B=true)(hT:aL H.B.length H.T.length H.T=true)
  (h:AB P N D x (thn (λs' σ'=> ∃v ts d c,lk? s' b=some v/\AJ σ' v ⟨H.B,H.T++ts⟩ d/\Sub c ((b,d)::s')/\aM H.B.length H.T.length c=true/\AB P N D y K c H) K) s H):AB P N D (.seq x y) K s H:=λg w a X hr ha z=>by
 refine wp_seq (wp_mono (h g w a X hr ha z) ?_)
 rintro e f w' ⟨o,s', σ', g', h1,h2,h3,h4,h5,h6,h7⟩
 cases o with
 |normal=>
  cases (show e = .normal from h1)
  obtain⟨v,ts,d,c,q1,q2,q3,q4,q6⟩:=h7
  have k:=h6 b
  rw[g9 q1]at k
  obtain⟨p,i,k2,k3⟩:=q2 g' w' _ h5 k
  have sr:A3 p w' ((b,d)::s') f.tmps:=λu=>by
   unfold lk
   cases e:Nat.beq b u with
   |true=>have:=Nat.eq_of_beq_eq_true e;subst this;exact k3
   |false=>exact Ab.mono i.le _ _ (h6 u)
  have r:=X.lenB
  have a0:=X.lenT
  have kx:=rQ (n:=H.B.length) (m:=H.T.length) (h4.trans i) om om
  have j:=pF (n:=H.B.length) (m:=H.T.length) k2 (by rw[take_length];exact q) (by rw[List.take_left'];exact hT;rfl)
  rw[take_length,List.take_left' rfl]at j
  exact wp_mono (q6 _ w' f j (λt=>Ab.aa _ _ (rP q4 t) (q3.a1 sr t)) h2 h3) λ_ _ _ hp=>hp.trans kx
 |exit id=>cases (show e = .exit id from h1);exact⟨.exit id,s', σ', g', rfl,h2,h3,h4,h5,h6,h7⟩
 |goto l=>cases (show e = .goto l from h1);exact⟨.goto l,s', σ', g', rfl,h2,h3,h4,h5,h6,h7⟩
 |ret=>cases (show e = .ret from h1);exact⟨.ret,s', σ', g', rfl,h2,h3,h4,h5,h6,h7⟩
 |pan x=>obtain⟨u,rfl,hu⟩:=h1;exact⟨.pan x,s', σ', g', ⟨u,rfl,hu⟩,h2,h3,h4,h5,h6,h7⟩
end Go.Av
namespace Go.Proofs.YtdodieljpcfpcaaGreatDoor
open Go Go.Av Go.Proofs.Tryz
attribute [local irreducible] AB AD AN AQ Av.AS AZ
theorem Iq{d:AR}(r:Ax d g h):gD d g.met=gD d h.met:=List.filter_congr λf hf=>decide_eq_decide.2 (not_congr (r.2 f hf))
theorem Uo{d:AR}(r:Ax d g h):qJ d g=qJ d h:=by unfold qJ xG;rw[r.1,Iq r]
def wG(d:AR)(g:Gs):Nat:=g.met.length+(gD d g.met).length
def Up(s:AI)(d:AR)(A:List AG)(u:AF)(n N:Nat)(c:∀m,n=m+1->∀l g,wG d (fN s d A u m l g)<=wG d g)(E:∀l g,aA Sl.size l<=N->wG d (fN s d A u n l g)<=wG d g)(x:Sl)(e:aA Sl.size x.O<=N)(g:Gs):wG d (p8 s d A u n x g)<=wG d g:=by
 unfold p8;split
 ·omega
 split
 ·exact le_refl _
 split
 ·split
  ·omega
  rename_i hn;cases hf:iT d x.name with
  |none=>exact le_refl _
  |some f=>
   obtain⟨b,a⟩:=jO hf;have h1:=D9 d g.met b (by rw[a];exact hn);rw[a]at h1;have h2:wG d ⟨g.met++[x.name],g.out⟩<=wG d g:=XP
   grind
 grind
def JF(s:AI)(d:AR)(A:List AG)(u:AF)(n:Nat)(a:∀m,n=m+1->∀l g,wG d (fN s d A u m l g)<=wG d g):∀(N:Nat) (l:List Sl) (g:Gs),aA Sl.size l<=N->wG d (fN s d A u n l g)<=wG d g
 |_,[],g,_=>by rw[pL];exact le_refl _
 |0,x::l,g,h=>by rw[aA]at h;have:=x.au;omega
 |N+1,x::l,g,h=>by rw[aA]at h;have Y:=x.ax;rw[nV];exact Nat.le_trans (JF s d A u n a N l _ om) (Up s d A u n N a (λl g hl=>JF s d A u n a N l g hl) x om g)
def Oo(s:AI)(d:AR)(A:List AG)(u:AF):∀(n:Nat) (l:List Sl) (g:Gs),wG d (fN s d A u n l g)<=wG d g
 |0,l,g=>JF s d A u 0 (λm h=>om) _ l g (le_refl _)
 |n+1,l,g=>JF s d A u (n+1) (λm h l g=>by obtain rfl:n=m:=om;exact Oo s d A u n l g) _ l g (le_refl _)
def Vh(s:AI)(d:AR)(A:List AG)(u:AF)(f:Af)(g:Gs):Nat->Gs
 |0=>g
 |n+1=>fN s d A u n f.O g
def MT{s:AI}{d:AR}{A:List AG}{u:AF}{n:Nat}{x:Sl}{m:Gs}{f:Af}(hk:x.kind=1)(hh:iV A x.ao=true)(h:x.name∉m.met)(hf:iT d x.name=some f):
  p8 s d A u n x m=if k9 s u f.on=true then Vh s d A u f ⟨m.met++[x.name],m.out⟩ n else ⟨m.met++[x.name],m.out⟩:=by unfold p8;rw[if_neg (by simp[hh]),if_neg om,if_pos hk,if_neg h,hf];cases n<;>rfl
def B7(s:AI)(d:AR)(A:List AG)(u:AF)(n:Nat)(l:List Sl)(m:Gs):Prop:=
 (gD d m.met).length<=n->qJ d m+aA Sl.size l<=68719476736->wG d m<=1048576->
  AQ prog 160 [.ptr 0 0, .slice (l.map Sl.C) .no] (pgS s d A u m) (λe σ'=> e = .ret (.tup [])/\σ'= pgS s d A u (fN s d A u n l m))
def Ir(s:AI)(d:AR)(A:List AG)(u:AF)(n:Nat)(l:List Sl)(g:Gs):g.out.length<=(fN s d A u n l g).out.length:=by have:=Dn s d A u n _ l g (le_refl _);rwa [(Db s d A u n l g g (JE d g)).1]at this
def aCY(s:AI)(d:AR)(A:List AG)(u:AF)(n:Nat)(l:List Sl)(g:Gs):qJ d (fN s d A u n l g)<=qJ d g+aA Sl.size l/\(gD d (fN s d A u n l g).met).length<=(gD d g.met).length:=by have r:=Db s d A u n l g g (JE d g);have:=LG s d A u n l g;rwa [Uo r,Iq r]at this
def MU(s:AI)(d:AR)(A:List AG)(u:AF)(hs:s.size<=1048576)(au:d.ai.length<=1048576)(he:A.length<=1048576)(n:Nat)(am:∀k,n=k+1->∀l m,B7 s d A u k l m):
  ∀(N:Nat) (l:List Sl) (m:Gs),aA Sl.size l<=N->B7 s d A u n l m
 |N,l,m,hN=>λhu hp hw=>by
  have bh:=aJ Sl.au l;refine On (Ir s d A u n l m) (cK [] func160 ?_);refine .go ?_;change AB _ _ _ _ _ _ _;refine FL (λn' s' H=>∃k:Nat,n'= l.length-k/\k<=l.length/\H=pgS s d A u (fN s d A u n (l.take k) m)/\s'= [(4, .int .i64 k),(1, .slice (l.map Sl.C) .no),(0, .ptr 0 0)])
   (s0:=[(4, .int .i64 (0:Nat)),(1, .slice (l.map Sl.C) .no),(0, .ptr 0 0)]) Z0 ⟨0,rfl,Nat.zero_le _,by rw[List.take_zero,pL],rfl⟩ ?_
  rintro n' s' H ⟨k,rfl,hk,rfl,rfl⟩;by_cases h1:k<l.length
  ·have d1:=ltT h1
   have x1:=aU (f:=Sl.C) h1;have hR:=MS s d A u n h1 m;obtain⟨p1,p2⟩:=aCY s d A u n (l.take k) m;have ay:=Oo s d A u n (l.take k) m;have ab:=gO (f:=Sl.size) h1;have aj:=fO Sl.size l (k+1);have ah:=Ir s d A u n [l[k]] (fN s d A u n (l.take k) m);rw[nV,pL, <-hR]at ah;generalize b2:fN s d A u n (l.take k) m=st at *;generalize ar:fN s d A u n (l.take (k+1)) m=R at *;have bj:=l[k].ax;have aw:∀q:l[k].kind=2,B7 s d A u n l[k].O st:=λ_=>MU s d A u hs au he n am (N-1) l[k].O st om
   have be:=aJ (size:=AM.size) (λd=>Xq) l[k].ao;generalize l[k]=x at *;have ag:=aAT A x.ao om om;obtain⟨o1,o2⟩:=LI d st;have t:=aCX s d A u st x om (λg hg=>by have:=o2 g hg;omega);have a7:(pgT st).length<=(pgT R).length:=by rw[iR,iR];omega
   have a8:=uC s d A u st.met st.out.length (pgT st).length Xi;have a1:=uC s d A u R.met R.out.length (pgT R).length Xi;have fin:∀(B1:List Ob) (s1:AE),Av.Sub [(4, .int .i64 ((k+1:Nat):Int)),(1, .slice (l.map Sl.C) .no),(0, .ptr 0 0)] s1->
     ∃m', m'< l.length-k/\∃s2 nB mT,(pgS s d A u st).B.length<=nB/\(pgS s d A u st).T.length<=mT/\Av.Sub s2 s1/\aM nB mT s2=true/\aQ nB mT ((pgB s d A u R.met R.out.length++B1).take nB)=true/\aL nB mT ((pgT R).take mT)=true/\
      ∃k': Nat,m'= l.length-k'/\ k'<= l.length/\(⟨(pgB s d A u R.met R.out.length++B1).take nB,(pgT R).take mT⟩:St)=pgS s d A u (fN s d A u n (l.take k') m)/\s2=[(4, .int .i64 k'),(1, .slice (l.map Sl.C) .no),(0, .ptr 0 0)]:=λB1 s1 ak=>by
    refine⟨l.length-(k+1),om,_,1,(pgT R).length,le_refl _,a7,ak,Wg,a1,by rw[take_length];exact l5 _ _,k+1,rfl,om, ?_,rfl⟩;rw[take_length,ar];rfl
   cases v:iV A x.ao with
   |false=>
    rw[v]at ag;have i:R=st:=by rw[hR];unfold p8;rw[if_pos v]
    subst i;unfold pgS pgB wV;repeat' first|refine bZ ?_|refine .s1 ?_|(refine .q ?_ ?_<;>intro O)|fail
    exact fin [] _ Z0
   |true=>
    rw[v]at ag;by_cases c1:x.kind=0
    ·have e1:(x.kind==0)=true:=by rw[c1];rfl
     have i:R=⟨st.met,kP x st.out⟩:=by rw[hR];unfold p8;rw[if_neg YK,if_pos c1]
     rw[<-i]at t;have p:aE 1 (pgT st).length [.ptr 0 0,x.C]=true:=by simp[aE,AV.aa,aF,Sl.K]
     unfold pgS at t ⊢;unfold pgB wV;repeat' first|refine bZ ?_|refine .s1 ?_|(refine .q ?_ ?_<;>intro O)|refine dC (B:=[]) t a7 a8 (l5 _ _) a1 (l5 _ _) p ?_|fail
     exact fin [] _ Z0
    have e1:=beF c1
    by_cases c3:x.kind=2
    ·have e3:(x.kind==2)=true:=by rw[c3];rfl
     have w:¬x.kind=1:=om
     have e:=Lc s u x.on hs;cases c4:k9 s u x.on with
     |true=>
      rw[c4]at e;have i:R=fN s d A u n x.O st:=by rw[hR];unfold p8;rw[if_neg YK,if_neg c1,if_neg w,if_pos c3,if_pos c4]
      have ht:=aw c3 om om om;rw[<-i, <-x.bb]at ht;have p:aE 1 (pgT st).length [.ptr 0 0, .slice x.sv .no]=true:=by simp[aE,AV.aa,aC,Sl.b8]
      unfold pgS at ht ⊢;unfold pgB wV;repeat' first|refine bZ ?_|refine .s1 ?_|(refine .q ?_ ?_<;>intro O)|refine dC (B:=[]) ht a7 a8 (l5 _ _) a1 (l5 _ _) p ?_|fail
      exact fin [] _ Z0
     |false=>
      rw[c4]at e;have i:R=st:=by rw[hR];unfold p8;rw[if_neg YK,if_neg c1,if_neg w,if_pos c3,if_neg (by simp[c4])]
      subst i;unfold pgS pgB wV;repeat' first|refine bZ ?_|refine .s1 ?_|(refine .q ?_ ?_<;>intro O)|fail
      exact fin [] _ Z0
    have e3:=beF c3
    by_cases w:x.kind=1
    ·have e2:(x.kind==1)=true:=by rw[w];rfl
     have bi:st.met.length<=1048576:=by unfold wG at ay hw;omega
     have bf:=KV d x.name om;have o:=zI st.met x.name om;have a3:AA [.slice (st.met.map AV.str) (.own 0 1), .str x.name] [.slice (st.met.map AV.str) .no, .str x.name]:=AA.cons (AC.no (aD _)) (aD _);have ai:(st.met.map AV.str).length=st.met.length:=length_map _;have ax:=l5 1 st;have h:=iR st;have aj:dM (pgT st)=some (st.out.length+2):=by rw[oM,h]
     have a2:=λ(B:List Ob) (z fe:AV)=>aY (H:=⟨B,(pgT st++[Tok.Y [z]]).set (st.out.length+2) (Tok.Y [fe])⟩) (k:=st.out.length+2) (z:=4) (n:=1) (j:=0) (xs:=[fe]) (y:=fe) (hT:=(by rw[sT _ _ _ h,xE _ _ h])) (hT':= gN XD)
     have av:=λ(z:AV)=>xE (pgT st) (Tok.Y [z]) h
     unfold pgS;repeat' first|refine bZ ?_|refine Dc (x := .region 11 _ _) 5 a8 ax ?_|refine bH (d:=5) (k:=st.out.length+2) (hk:=aj) (hT':= oN _ _ _) ?_|refine .s1 ?_|(refine .q ?_ ?_<;>intro O)|refine aX (agg:=true) (hTk:=av _) (hT':= gN XD) ?_|fail
     have a2:=a2 (pgB s d A u st.met st.out.length) (.agg [.str [], .str [], .slice [] .nil, .slice [] .nil]) (cJ d x.name).1.C;have ab:∀a b:Tok,(pgT st++[a]).set (st.out.length+2) b=pgT st++[b]:=λa b=>sT _ _ _ h
     simp only[ab]at a2;refine⟨_,_,_,[(5, .ab (cJ d x.name).1.C),(6, .bool (cJ d x.name).2),(4, .int .i64 k),(1, .slice (l.map Sl.C) .no),(0, .ptr 0 0)],rfl,by rw[ab];exact a2,Z0,by simp[aM,AV.aa,aF,aC,Af.K,aZ,pgB], ?_⟩;by_cases c5:x.name∈st.met
     ·rw[decide_eq_true c5]at o;have i:R=st:=by rw[hR];unfold p8;rw[if_neg YK,if_neg c1,if_pos w,if_pos c5]
      subst i;unfold pgB wV;repeat' first|refine bZ ?_|refine .s1 ?_|(refine .q ?_ ?_<;>intro O)|refine aH (hw:=a3) o ?_|fail
      exact fin [] _ Z0
     rw[decide_eq_false c5]at o;cases r:iT d x.name with
     |none=>
      have aa:cJ d x.name=(UT,false):=by unfold cJ;rw[r]
      rw[aa];have i:R=st:=by rw[hR];unfold p8;rw[if_neg YK,if_neg c1,if_pos w,if_neg c5,r]
      subst i;unfold pgB wV;repeat' first|refine bZ ?_|refine .s1 ?_|(refine .q ?_ ?_<;>intro O)|refine aH (hw:=a3) o ?_|fail
      exact fin [] _ Z0
     |some f=>
      have aa:cJ d x.name=(f,true):=by unfold cJ;rw[r]
      rw[aa];have e:=Lc s u f.on hs;have c:=MT (s:=s) (u:=u) (n:=n) (m:=st) w v c5 r;rw[<-hR]at c;have eB:pgB s d A u (st.met++[x.name]) st.out.length=[.cells [.slice (s.ah.map Ag.C) .no, .str s.query, .str s.ar, .slice (d.ops.map Aj.C) .no, .slice (d.ai.map Af.C) .no, .slice (A.map AG.C) .no, .str u, .slice (st.met.map AV.str++[.str x.name]) (.own 0 1), .Y 1 2 st.out.length 0 st.out.length]]:=by unfold pgB wV;rw[map_append];rfl
      have eT:pgT ⟨st.met++[x.name],st.out⟩ = .len (st.met.length+1) :: .Y (cT 1 st.out)::st.out.map λg => .Y (g.O.map Sl.C):=by unfold pgT;rw[length_append];rfl
      cases c4:k9 s u f.on with
      |false=>
       rw[c4]at e c;rw[if_neg Wc]at c;have ap:pgB s d A u R.met R.out.length=pgB s d A u (st.met++[x.name]) st.out.length:=by rw[c]
       have aq:pgT R=pgT ⟨st.met++[x.name],st.out⟩:=by rw[c]
       rw[ap,aq,eB,eT]at fin;unfold pgS pgB wV pgT at fin;unfold pgB wV pgT;repeat' first|refine bZ ?_|refine .s1 ?_|(refine .q ?_ ?_<;>intro O)|refine aH (hw:=a3) o ?_|refine bU (n:=st.met.length) ai ?_|fail
       exact fin [] _ Z0
      |true=>
       rw[c4]at e c;rw[if_pos rfl]at c;obtain⟨hm,a9⟩:=jO r;have g1:=D9 d st.met hm (by rw[a9];exact c5);have g2:=uT d st.met hm (by rw[a9];exact c5) (λf:Af=>aA Sl.size f.O);rw[a9]at g1 g2;have g3:qJ d st=Dm st.out+aA (λf:Af=>aA Sl.size f.O) (gD d st.met):=rfl;have g4:qJ d ⟨st.met++[x.name],st.out⟩=Dm st.out+aA (λf:Af=>aA Sl.size f.O) (gD d (st.met++[x.name])):=rfl;have g5:wG d ⟨st.met++[x.name],st.out⟩<=wG d st:=XP
       cases n with
       |zero=>omega
       |succ q=>
        rw[Vh]at c;have ht:=am q rfl f.O ⟨st.met++[x.name],st.out⟩ Wl om om;rw[<-c]at ht;have p:aE 1 (pgT ⟨st.met++[x.name],st.out⟩).length [.ptr 0 0, .slice (f.O.map Sl.C) .no]=true:=by simp[aE,AV.aa,aC,aZ]
        have af:=uC s d A u (st.met++[x.name]) st.out.length (pgT ⟨st.met++[x.name],st.out⟩).length Xi;have al:=l5 1 ⟨st.met++[x.name],st.out⟩;have ae:(pgT ⟨st.met++[x.name],st.out⟩).length<=(pgT R).length:=by rw[iR,iR];exact(by omega:st.out.length+2<=R.out.length+2)
        unfold pgS at ht;dsimp only at ht;rw[eB,eT]at ht;rw[eT]at p ae;rw[eB,eT]at af;rw[eT]at al;unfold pgB wV pgT;repeat' first|refine bZ ?_|refine .s1 ?_|(refine .q ?_ ?_<;>intro O)|refine aH (hw:=a3) o ?_|refine bU (n:=st.met.length) ai ?_|refine dC (B:=[]) ht ae af al a1 (l5 _ _) p ?_|fail
        exact fin [] _ Z0
    ·have e2:=beF w
     have i:R=st:=by rw[hR];unfold p8;rw[if_neg YK,if_neg c1,if_neg w,if_neg c3]
     subst i;unfold pgS pgB wV;repeat' first|refine bZ ?_|refine .s1 ?_|(refine .q ?_ ?_<;>intro O)|fail
     exact fin [] _ Z0
  ·have d1:=ltF h1
   obtain rfl:k=l.length:=om
   rw[take_length];refine .go ?_;exact⟨_,_,rfl,eU _ _,rfl,take_length⟩
termination_by N=>N
decreasing_by omega
def Vi(s:AI)(d:AR)(A:List AG)(u:AF)(hs:s.size<=1048576)(a:d.ai.length<=1048576)(he:A.length<=1048576):∀(n:Nat) (l:List Sl) (m:Gs),B7 s d A u n l m
 |0,l,m=>MU s d A u hs a he 0 (λk h=>om) _ l m (le_refl _)
 |n+1,l,m=>MU s d A u hs a he (n+1) (λk h l m=>(by omega:n=k)▸Vi s d A u hs a he n l m) _ l m (le_refl _)
def Ld(B:List Ob)(a:Tok)(v:AV):∀(done C:List AW),
  AJ ⟨B,a :: .Y (done.map AW.C++cT (done.length+1) C)::(done.map (λg=>Tok.len (g.O.length+1))++C.map λg=>Tok.Y (g.O.map Sl.C))⟩ v
   ⟨B,a :: .Y ((done++C).map AW.C)::(done++C).map (λg=>Tok.len (g.O.length+1))⟩ v
 |done,[]=>by
  rw[cT,List.map_nil,append_nil,append_nil,append_nil]
  exact eU _ _
 |done,g::C=>by
  have E:=Ld B a v (done++[g]) C
  refine AJ.trans ?_ (by rw[List.append_assoc]at E;exact E)
  have b:(done.map AW.C).length=done.length:=length_map _
  have d:(done.map (λg=>Tok.len (g.O.length+1))).length=done.length:=length_map _
  have Y:(done.map AW.C++cT (done.length+1) (g::C))[done.length]? =some (z8 (done.length+1) g):=by
   rw[List.getElem?_append_right om,b,sub_self,cT];rfl
  have ht:(a::Tok.Y (done.map AW.C++cT (done.length+1) (g::C))::(done.map (λg=>Tok.len (g.O.length+1))++(g::C).map λg=>Tok.Y (g.O.map Sl.C)))[done.length+1+1]? =some (.Y (g.O.map Sl.C)):=by
   rw[List.getElem?_cons_succ,List.getElem?_cons_succ,List.getElem?_append_right om,d,sub_self];rfl
  have e:=b6 (H:=⟨B,a::Tok.Y (done.map AW.C++cT (done.length+1) (g::C))::(done.map (λg=>Tok.len (g.O.length+1))++(g::C).map λg=>Tok.Y (g.O.map Sl.C))⟩)
   (k:=done.length+1+1) (z:=7) (n:=g.O.length) (lo:=0) (X:=g.O.length) ht (length_map _) (gN Wa)
  rw[List.drop_zero,take_of_length_le Wa]at e
  have f:=cU (z0:=v) (k:=1) (i:=done.length) (c:=1) rfl Y rfl e rfl (gN Wa)
  have e1:∀(n:Nat) (y:AV),(done.map AW.C++cT n (g::C)).set done.length y=done.map AW.C++(y::cT (n+1) C):=λn y=>by
   rw[List.set_append,if_neg om,b,sub_self,cT];rfl
  have h:∀(y:Tok),(done.map (λg=>Tok.len (g.O.length+1))++(g::C).map λg=>Tok.Y (g.O.map Sl.C)).set done.length y=done.map (λg=>Tok.len (g.O.length+1))++(y::C.map λg=>Tok.Y (g.O.map Sl.C)):=λy=>by
   rw[List.set_append,if_neg om,d,sub_self]
   rfl
  simp only[List.set_cons_succ,List.set_cons_zero,e1,h]at f
  rw[map_append,map_append,List.append_assoc,List.append_assoc,length_append]
  exact f
def Uq(s:AI)(d:AR)(A:List AG)(u:AF)(l:List Sl)(hs:s.size<=1048576)(p:aA (λf:Af=>aA Sl.size f.O) d.ai+aA Sl.size l<=68719476736)(j:d.ai.length<=1048576)(he:A.length<=1048576):
  AN prog 96 [s.C,d.C, .slice (A.map AG.C) .no, .str u, .slice (l.map Sl.C) .no] (.slice ((bG s d A u l).map AW.C) .no):=by
 have e:gD d []=d.ai:=List.filter_eq_self.2 Wa;have c:=Vi s d A u hs j he d.ai.length l ⟨[],[]⟩ (List.length_filter_le _ _) (by
  have:qJ d ⟨[],[]⟩=aA (λf:Af=>aA Sl.size f.O) d.ai:=by unfold qJ xG;rw[e];simp[Dm,aA]
  omega) (by unfold wG;rw[e];simp only[List.length_nil];omega)
 rw[<-Un];have b:(pgT ⟨[],[]⟩).length<=(pgT (fN s d A u d.ai.length l ⟨[],[]⟩)).length:=by rw[iR,iR];simp
 generalize fN s d A u d.ai.length l ⟨[],[]⟩=R at *
 have h:=uC s d A u [] 0 (pgT ⟨[],[]⟩).length Xi;have i:=uC s d A u R.met R.out.length (pgT R).length Xi;have o:aE 1 (pgT ⟨[],[]⟩).length [.ptr 0 0, .slice (l.map Sl.C) .no]=true:=by simp[aE,AV.aa,aC,aZ]
 unfold pgS at c;have m:=Ld (pgB s d A u R.met R.out.length++[]) (.len R.met.length) (.Y 1 2 R.out.length 0 R.out.length) [] R.out;have a:=b6 (H:=⟨pgB s d A u R.met R.out.length++[], .len R.met.length :: .Y (R.out.map AW.C)::R.out.map (λg=>Tok.len (g.O.length+1))⟩) (k:=1) (z:=2) (n:=R.out.length) (lo:=0) (X:=R.out.length) rfl (length_map _) rfl;rw[List.drop_zero,take_of_length_le Wa]at a;refine jI WM YE (cK [10] func96 ?_)
 repeat' first|refine AD.bx (v := .agg [_,_,_,_,_,_,_,_,_]) ?_|refine .br ?_|refine lI 0 7 false 1 ?_|refine f8 0 8 rfl rfl (kE (z:=2) rfl rfl rfl) rfl ?_|refine .s1 ?_|(refine .q ?_ ?_<;>intro O)|refine bZ ?_|refine dC (B:=[]) c b h (l5 _ _) i (l5 _ _) o ?_|fail
 exact⟨_,_,rfl,AJ.trans m a⟩
def PT(s:AI)(d:AR)(A:List AG)(L:List AY)(n:Nat):List AV:=[.slice (s.ah.map Ag.C) .no, .str s.query, .str s.ar, .slice (d.ops.map Aj.C) .no, .slice (d.ai.map Af.C) .no, .slice (A.map AG.C) .no,Tbls.C L, .slice [] .nil, .slice [] .nil, .int .i64 n, .int .i64 400]
def cnB(s:AI)(d:AR)(A:List AG)(st:BG):List Ob:=[.cells (PT s d A st.L st.n)]
theorem gU(s:AI)(d:AR)(A:List AG)(st:BG)(n m:Nat):aQ n m (cnB s d A st)=true:=by simp[cnB,PT,aQ,Ob.aa,aE,AV.aa,aF,aC,dS,mB,jX,aT,Tbls.K]
def CZ(s:AI)(d:AR)(A:List AG)(N:Nat)(pl:BO):Prop:=∀u row w st,DX s u->BT st.L->BR row->Ai w st.n->st.n<=400->401<=N+st.n->
 AQ prog 44 [.ptr 0 0, .str u,row.C, .slice (w.map Sl.C) .no] ⟨cnB s d A st,[]⟩ (λe σ'=> e = .ret (.tup [])/\σ'= ⟨cnB s d A (pl u row w st),[]⟩)
theorem Ur(s:AI)(pl:BO)(tb:AF)(w:List Sl)(v:AH)(t:Ae)(st:BG):oJ s pl tb w v t st=
  if 400<st.n+1 then ⟨st.L,st.n+1⟩
  else if (fZ t).2=true then lQ s pl tb w v.l (b7 t) ⟨st.L,st.n+1⟩
  else if v.kind≠4\/fQ s t.name=false then ⟨st.L,st.n+1⟩
  else if (cN st.L ⟨tb,v.s⟩).is=true/\(cN st.L ⟨tb,v.s⟩).row.av∈jK s t.name then pl (cN st.L ⟨tb,v.s⟩).row.av (cN st.L ⟨tb,v.s⟩).row w ⟨st.L,st.n+1⟩ else ⟨st.L,st.n+1⟩:=by cases v;rw[oJ];rfl
def aCZ(s:AI)(d:AR)(A:List AG)(hs:s.size<=1048576)(pl:BO)(B:Nat)(hB:B<=2305843009213693952)(hp:CR s pl B)(hup:BN pl)(N0:Nat)(O:CZ s d A N0 pl)(tb:AF)(w:List Sl):∀(N:Nat) (v:AH),v.size<=N->rH v->∀(t:Ae) (st:BG),t.name.length<=68719476736->Ap s t.name->BT st.L->Ai w st.n->st.n<=4611686018427387904->401<=N0+st.n+1->
  AQ prog 102 [.ptr 0 0,t.C,v.C, .str tb, .slice (w.map Sl.C) .no] ⟨cnB s d A st,[]⟩ (λe σ'=> e = .ret (.tup [])/\σ'= ⟨cnB s d A (oJ s pl tb w v t st),[]⟩)
 |N,v,hv,y,t,st,ht,hr,hT,hS,hn,hM=>by
  refine gM (nB:=1) (mT:=0) (cK [] func102 ?_) rfl (gU _ _ _ _ _ _) rfl;rw[Ur];have aa:=KO t om;by_cases z:400<st.n+1
  ·have e1:decide ((400:Int)<(st.n:Int)+1)=true:=decide_eq_true om;rw[if_pos z];unfold cnB PT;repeat' first|refine .br ?_|refine bZ ?_|refine .s1 ?_|(refine .q ?_ ?_<;>intro O)|fail
   exact⟨_,_,rfl,eU _ _,rfl,rfl⟩
  have e1:decide ((400:Int)<(st.n:Int)+1)=false:=decide_eq_false om;rw[if_neg z];unfold cnB PT;repeat' first|refine .br ?_|refine bZ ?_|refine Dc (x := .region 3 _ _) 10 (gU s d A ⟨st.L,st.n+1⟩ 1 0) rfl ?_|refine bH (d:=10) ?_|refine .s1 ?_|(refine .q ?_ ?_<;>intro O)|refine aX (agg:=true) ?_|fail
  refine⟨_,_,_,[(10, .ab (fZ t).1.C),(11, .bool (fZ t).2),(7, .ab v.C),(6, .ab t.C),(3, .str tb),(4, .slice (w.map Sl.C) .no),(0, .ptr 0 0)],rfl,aY,Z0,by simp[aM,AV.aa,aF,aC,Ae.K,AH.K,aZ], ?_⟩;show AB _ _ _ _ _ _ ⟨cnB s d A ⟨st.L,st.n+1⟩,[]⟩;by_cases f:(fZ t).2=true
  ·have r:(fZ t).1=b7 t:=by unfold fZ at f ⊢; split at f<;>simp_all
   rw[r,f,if_pos rfl];have b:=lU.1 y;refine .go ?_;refine fB v.l AH.C (λj=>[(12, .int .i64 j),(10, .ab (b7 t).C),(7, .ab v.C),(3, .str tb),(4, .slice (w.map Sl.C) .no),(0, .ptr 0 0)]) (λj=>⟨cnB s d A (lQ s pl tb w (v.l.take j) (b7 t) ⟨st.L,st.n+1⟩),[]⟩) (λ_=>True) trivial (λj h1 p x1 _=> ?_) (λp _=> ?_) (hz:=by rw[List.take_zero,lQ])
   ·rw[<-v.b0]at x1;rw[<-v.ba]at p;have ab:=dI h1;have u:JC (v.l.take j):=GC.2 λx Y=>b.2.2.2.1 x (List.mem_of_mem_take Y)
    obtain⟨n2,n3⟩:=Mi s pl hup B hp tb w st.n hS (v.l.take j) (b7 t) ⟨st.L,st.n+1⟩ hr u hT (Nat.le_succ _);have n1:=Ng s pl hp.same tb w (v.l.take j) (b7 t) ⟨st.L,st.n+1⟩ hr;have n4:=Fh s pl hup tb w (v.l.take j) (b7 t) ⟨st.L,st.n+1⟩;have n5:(v.l.take j).length<=v.l.length:=by rw[length_take];omega
    have a:=aCZ s d A hs pl B hB hp hup N0 O tb w (N-1) v.l[j] om (b.2.2.2.1 _ (getElem_mem h1)) (b7 t) (lQ s pl tb w (v.l.take j) (b7 t) ⟨st.L,st.n+1⟩) ht hr (by rw[n1];exact hT) (FW hS (by dsimp only at n4;omega)) (by
     dsimp only at n2 n3;by_cases h5:400<=st.n+1
     ·have:=n2 h5;omega
     ·have:=n3 om;omega) (by dsimp only at n4;omega)
    have hM:oJ s pl tb w v.l[j] (b7 t) (lQ s pl tb w (v.l.take j) (b7 t) ⟨st.L,st.n+1⟩)=lQ s pl tb w (v.l.take (j+1)) (b7 t) ⟨st.L,st.n+1⟩:=by rw[take_succ_eq_append_getElem h1,HW]
    rw[hM]at a;have o:=gU s d A (lQ s pl tb w (v.l.take j) (b7 t) ⟨st.L,st.n+1⟩) 1 0;have k:=gU s d A (lQ s pl tb w (v.l.take (j+1)) (b7 t) ⟨st.L,st.n+1⟩) 1 0;have b2:=gU s d A (lQ s pl tb w (v.l.take (j+1)) (b7 t) ⟨st.L,st.n+1⟩) 2 0;have c:aE 1 0 [.ptr 0 0,(b7 t).C,v.l[j].C, .str tb, .slice (w.map Sl.C) .no]=true:=YO
    repeat' first|refine bZ ?_|refine .s1 ?_|(refine .q ?_ ?_<;>intro O)|refine dC (B:=[]) a (le_refl _) o rfl k rfl c ?_|fail
    exact nz trivial (hb:=by show aM 1 0 _=true;simp[aM,AV.aa,aF,aC,Ae.K,AH.K,aZ]) (h3:=by show (aQ 1 0 (cnB s d A _)&&true)=true;rw[k];rfl)
   ·have d2:decide ((v.l.length:Int)<(v.lv.length:Int))=false:=by rw[v.ba];exact p
    rw[take_length];refine .go ?_;exact⟨_,_,rfl,eU _ _,rfl,rfl⟩
  rw[Bool.not_eq_true]at f;rw[f,if_neg Wc];have i:=MD s t.name hs;by_cases m:v.kind≠4
  ·have e3:(v.kind != 4)=true:=by simpa using m
   rw[if_pos (.inl m)];repeat' first|refine bZ ?_|refine .s1 ?_|(refine .q ?_ ?_<;>intro O)|fail
   exact⟨_,_,rfl,eU _ _,rfl,rfl⟩
  have e3:(v.kind != 4)=false:=by simpa using m
  cases c4:fQ s t.name with
  |false=>
   rw[c4]at i;rw[if_pos (.inr rfl)];repeat' first|refine bZ ?_|refine .s1 ?_|(refine .q ?_ ?_<;>intro O)|fail
   exact⟨_,_,rfl,eU _ _,rfl,rfl⟩
  |true=>
   rw[c4]at i;rw[if_neg (by simp[m])];have hF:=Vf st.L ⟨tb,v.s⟩ Y1 (λt ht=>Yj);have hrow:=FV hT ⟨tb,v.s⟩;generalize cN st.L ⟨tb,v.s⟩=G at *;have hP:=tZ s t.name hs;have hH:=zI (jK s t.name) G.row.av (by have:=sR s t.name om;omega);repeat' first|refine .br ?_|refine bZ ?_|refine Dc (x := .region 10 _ _) 13 (gU s d A ⟨st.L,st.n+1⟩ 1 0) rfl ?_|refine bH (d:=13) ?_|refine .s1 ?_|(refine .q ?_ ?_<;>intro O)|refine aX (agg:=true) ?_|fail
   refine⟨_,_,_,[(13, .ab G.C),(7, .ab v.C),(6, .ab t.C),(3, .str tb),(4, .slice (w.map Sl.C) .no),(0, .ptr 0 0)],rfl,aY,Z0,by show aM 1 0 _=true;simp[aM,AV.aa,aF,aC,Ae.K,AH.K,Bt.K,aZ], ?_⟩;show AB _ _ _ _ _ _ ⟨cnB s d A ⟨st.L,st.n+1⟩,[]⟩;by_cases g:G.is=true/\G.row.av∈jK s t.name
   ·rw[if_pos g];have a:=O G.row.av G.row w ⟨st.L,st.n+1⟩ (hr _ g.2) hT hrow (FW hS Wl) Wl Wl;generalize hR:pl G.row.av G.row w ⟨st.L,st.n+1⟩=R at *;have o:=gU s d A ⟨st.L,st.n+1⟩ 1 0;have k:=gU s d A R 1 0;have c:aE 1 0 [.ptr 0 0, .str G.row.av,G.row.C, .slice (w.map Sl.C) .no]=true:=by simp[aE,AV.aa,aF,Row.K,aC,aZ]
    rw[decide_eq_true g.2]at hH;repeat' first|refine bZ ?_|refine .s1 ?_|(refine .q ?_ ?_<;>intro O)|refine dC (B:=[]) a (le_refl _) o rfl k rfl c ?_|fail
    all_goals first|exact⟨_,_,rfl,eU _ _,rfl,rfl⟩|simp_all
   ·rw[if_neg g];cases c6:G.is with
    |false=>
     repeat' first|refine bZ ?_|refine .s1 ?_|(refine .q ?_ ?_<;>intro O)|fail
     exact⟨_,_,rfl,eU _ _,rfl,rfl⟩
    |true=>
     rw[decide_eq_false (λh=>g ⟨c6,h⟩)]at hH;repeat' first|refine bZ ?_|refine .s1 ?_|(refine .q ?_ ?_<;>intro O)|fail
     exact⟨_,_,rfl,eU _ _,rfl,rfl⟩
termination_by N=>N
decreasing_by have:=v.au;omega
def aAU(f:Ah)(b:BQ)(args:List AG):AN prog 101 [f.C,b.C, .slice (args.map AG.C) .no] (oZ f b args).C:=by refine pER [.cell 6 176] func101 (O:=BH.K _) (ha:=by simp[aB,AV.K,Ah.K,BQ.K,aT]) ?_;refine .ac ?_;exact aO
end Go.Proofs.YtdodieljpcfpcaaGreatDoor
