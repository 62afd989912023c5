/- Joined texts. -/
import Derived.Lib.ItoaNum
import Derived.Lib.AppendIntMem
import Derived.Lib.ValidLaws
import Derived.Test.YtimbiifcnhgcoaaGreatDoorGEvK2
import Derived.Test.YtimbiifcnhgcoaaGreatDoorShelfF
set_option maxRecDepth 100000
set_option maxHeartbeats 16000000
set_option linter.all false
open List (drop_eq_nil_of_le drop_zero getElem?_eq_getElem getElem_mem map_append map_set map_take mem_cons set_cons_succ set_cons_zero set_set take_of_length_le)
open Nat (le_refl zero_add zero_le)
open Bool (and_eq_true)
open Go Go.Av Go.Proofs.YtimbiifcnhgcoaaGreatDoor Go.Proofs.Tryz
variable{α:Type}{name x:AG}{m:Int}{l:List AF}{U xs:List AG}{k:Nat}{t1:Tk}
namespace Go.Proofs.YtimbiifcnhgcoaaGreatDoor
open Go Go.Av Go.Proofs.Tryz
attribute [local irreducible] AB AD AN AI Av.AU AZ
def Qg{l:Int}(h0:0<=l)(h4:l<=4):m.fdiv (2 ^ min (l+1).toNat IntKind.i64.bits)=m/2 ^ (l.toNat+1):=by
 have e:min (l+1).toNat IntKind.i64.bits=l.toNat+1:=by show min (l+1).toNat 64=_;omega
 rw[e,Int.fdiv_eq_ediv_of_nonneg _ (Int.le_of_lt (Int.pow_pos Wd))]
theorem JT{c:Int}(h:0<=m)(O:0<c):(m/c==0)=decide (m<c):=by
 rw[Bool.eq_iff_iff,beq_iff_eq,decide_eq_true_eq];constructor
 ·intro e;have b:=Int.emod_lt_of_pos m O;have a:=Int.mul_ediv_add_emod m c;rw[e]at a;omega
 ·exact Int.ediv_eq_zero_of_lt h
def Ng(t:Ac)(hs:t.name.length<=9223372036854775806):AN prog 110 [t.C] (.bool (cG t)):=by
 have hn:=Vi t.name hs;refine AI.plain rfl rfl (aS [2] func110 ?_);by_cases c:0<=t.an
 ·have e1:decide (0<=t.an)=true:=decide_eq_true c;by_cases d:t.an<=4
  ·have a:decide (t.an<=4)=true:=decide_eq_true d;by_cases h3:0<=t.az
   ·have b:decide (0<=t.az)=true:=decide_eq_true h3
    repeat' first|refine .br ?_|refine .s1 ?_|(refine .q ?_ ?_<;>intro O)|refine Kg rfl rfl om (Qg c d) ?_|fail
    all_goals
     refine Fin.rb ?_;unfold cG;rw[e1,a,b]
     try rw[JT h3 (Int.pow_pos Wd)]
     simp_all
   ·have b:decide (0<=t.az)=false:=decide_eq_false h3
    repeat' first|refine .br ?_|refine .s1 ?_|(refine .q ?_ ?_<;>intro O)|fail
    all_goals
     refine Fin.rb ?_;unfold cG;rw[b];simp_all
  ·have a:decide (t.an<=4)=false:=decide_eq_false d
   repeat' first|refine .br ?_|refine .s1 ?_|(refine .q ?_ ?_<;>intro O)|fail
   all_goals
    refine Fin.rb ?_;unfold cG;rw[a];simp_all
 ·have e1:decide (0<=t.an)=false:=decide_eq_false c
  repeat' first|refine .br ?_|refine .s1 ?_|(refine .q ?_ ?_<;>intro O)|fail
  all_goals
   refine Fin.rb ?_;unfold cG;rw[e1];simp_all
def aDD(m:Nat):m &&& 1=m % 2:=Nat.and_two_pow_sub_one_eq_mod m 1
def aER(t:Ac)(h0:0<=t.az)(a:t.az<9223372036854775808):AN prog 111 [t.C, .int .i64 0] (.bool (decide (t.az % 2=1))):=by
 refine AI.plain rfl rfl (aS [4] func111 ?_);have e:t.az.fdiv (2 ^ min (0:Int).toNat IntKind.i64.bits)=t.az:=by rw[show (2:Int) ^ min (0:Int).toNat IntKind.i64.bits=1 from rfl,Int.fdiv_eq_ediv_of_nonneg _ Wd,Int.ediv_one]
 repeat' first|refine .br ?_|refine .s1 ?_|(refine .q ?_ ?_<;>intro O)|refine Kg rfl rfl Wd e ?_|refine DU (m:=t.az.toNat) (n:=1) rfl rfl om rfl om Wd (aDD _) ?_|fail
 refine Fin.rb ?_;rw[Bool.eq_iff_iff,beq_iff_eq,decide_eq_true_eq];omega
def SL{l:Int}(h:l<=4):(2:Int) ^ (l.toNat+1)<=32:=by
 have a:l.toNat<=4:=om
 generalize l.toNat=n at a
 match n,a with
 |0,_=>decide
 |1,_=>decide
 |2,_=>decide
 |3,_=>decide
 |4,_=>decide
def GZ{t:Ac}(h:cG t=true):t.az<32:=by obtain⟨_,_,h3,_,a⟩:=fR.1 h;have:=SL h3;omega
def wIs(t:Ac)(hs:t.name.length<=9223372036854775806):AN prog 57 [t.C] (.bool (isT t)):=by
 have hr:=Ng t hs;refine AI.plain rfl rfl (aS [2] func57 ?_);cases c:cG t with
 |true=>rw[c]at hr;have hb:=aER t (fR.1 c).2.2.2.1 (by have:=GZ c;omega);refine .ae ?_;refine Fin.rb ?_;unfold isT;rw[c];rfl
 |false=>rw[c]at hr;refine .ae ?_;refine Fin.rb ?_;unfold isT;rw[c];rfl
def OO:m.fdiv (2 ^ min (1:Int).toNat IntKind.i64.bits)=m/2:=by rw[show (2:Int) ^ min (1:Int).toNat IntKind.i64.bits=2 from rfl,Int.fdiv_eq_ediv_of_nonneg _ Wd]
def SM(t:Ac)(hs:t.name.length<=9223372036854775806):AN prog 114 [t.C] (.tup [(fU t).1.C, .bool (fU t).2]):=by
 have hr:=Ng t hs;refine AI.plain rfl rfl (cE [.cell 2 84, .tmp 3] func114 ?_);unfold fU;cases c:cG t with
 |true=>
  rw[c]at hr;obtain⟨_,b,d,e,f⟩:=fR.1 c;by_cases h0:t.an=0
  ·have a:(t.an==0)=true:=by simp[h0]
   rw[if_neg (λh=>h.2 h0)];refine .ae ?_;exact aO
  ·have a:(t.an==0)=false:=by simp[h0]
   rw[if_pos ⟨rfl,h0⟩]
   repeat' first|refine .br ?_|refine .s1 ?_|(refine .q ?_ ?_<;>intro O)|refine Kg rfl rfl Wd OO ?_|fail
   exact aO
 |false=>rw[c]at hr;rw[if_neg (λh=>by cases h.1)];refine .ae ?_;exact aO
def aES(h0:0<=m)(h:m<32):IntKind.i64.wrap (((BitVec.ofInt IntKind.i64.bits m) &&& ~~~(BitVec.ofInt IntKind.i64.bits 1)).toNat:Int)=if m % 2=1 then m-1 else m:=by
 have:∀m:Fin 32,IntKind.i64.wrap (((BitVec.ofInt IntKind.i64.bits (m.val:Int)) &&& ~~~(BitVec.ofInt IntKind.i64.bits 1)).toNat:Int)=if (m.val:Int) % 2=1 then (m.val:Int)-1 else (m.val:Int):=Xe
 have e:=this ⟨m.toNat,om⟩;simp only[Int.toNat_of_nonneg h0]at e;exact e
theorem Ah.au(d:Ah):1<=d.size:=WJ
theorem AP.au(d:AP):1<=d.size:=Yo
theorem Ag.au(d:Ag):1<=d.size:=XI
theorem AO.au(d:AO):1<=d.size:=X4
theorem AJ.len(s:AJ):s.ai.length<=s.size:=by have:=aJ Ah.au s.ai;unfold AJ.size;omega
def l9{s:AJ}{d:Ah}(h:d∈s.ai):d.size<=s.size:=by have:=aN (size:=Ah.size) h;unfold AJ.size;omega
def Ah.lens(d:Ah):d.params.length<=d.size/\d.ax.length<=d.size/\d.faces.length<=d.size/\d.fields.length<=d.size/\d.name.length<=d.size:=by have a:=aJ AP.au d.params;have b:=aJ Ag.au d.fields;have h3:=aJ (size:=λx:AG=>x.length+1) (λ_=>om) d.ax;have h4:=aJ (size:=λx:AG=>x.length+1) (λ_=>om) d.faces;unfold Ah.size dB;omega
theorem Ah.b2{d:Ah}{p:AP}(h:p∈d.params):p.size<=d.size:=by have:=aN (size:=AP.size) h;unfold Ah.size;omega
def AP.lens(p:AP):p.name.length<=p.size/\p.t.name.length<=p.size/\p.d.size<=p.size:=by unfold AP.size Ac.size;omega
def UW(n:AG):AN prog 172 [.str n] (.bool (lG n)):=by
 refine AI.plain rfl rfl (aS [2] func172 ?_)
 repeat' first|refine .s1 ?_|(refine .q ?_ ?_<;>intro O)|fail
 all_goals
  refine Fin.rb ?_;unfold lG C9 dC g7 sID;simp_all
def Dj{k:Int}{n:AG}{t2 a b:Tk}:AC (.agg [.int .i64 k, .str n, .slice [] t1, .slice [] t2, .slice [] a, .slice [] b]) (Ah.C ⟨k,n,[],[],[],[]⟩):=
 AC.agg (AA.cons (aG _) (AA.cons (aG _) (AA.cons (AC.no (aB _)) (AA.cons (AC.no (aB _)) (AA.cons (AC.no (aB _)) (AA.cons (AC.no (aB _)) (aB _)))))))
def x9{p:α->Bool}{l:List α}(h:k<l.length):(l.drop k).find? p=if p l[k]=true then some l[k] else (l.drop (k+1)).find? p:=by rw[List.drop_eq_getElem_cons h,List.find?_cons];cases p l[k]<;>rfl
def Lw(s:AJ)(name:AG)(hs:s.size<=68719476736):AN prog 102 [s.C, .str name] (.tup [(bN s name).1.C, .bool (bN s name).2]):=by
 have a:=UW name;have h:=s.len;refine AI.plain (by simp[AV.K,aA,Ah.K]) Wn (cE [.cell 4 142, .tmp 5] func102 ?_);cases c:lG name with
 |true=>rw[c]at a;refine .ae ?_;refine aI rfl ?_;rw[bN,dW,if_pos c];exact AC.tup (AA.cons Dj (aB _))
 |false=>
  rw[c]at a;refine .ae ?_;refine bK s.ai.length (λk=>[(15, .int .i64 k),(14, .int .i64 s.ai.length),(13, .slice (s.ai.map Ah.C) .no),(1, .str name),(4, .ptr 0 0)])
   (λ_=>⟨[.cells [.int .i64 0, .str [], .slice [] .nil, .slice [] .nil, .slice [] .nil, .slice [] .nil]],[]⟩) (λk=>dW s name=(s.ai.drop k).find? (λd=>d.name==name))
   Z9 rfl Z2 λk hk hp=> ?_
  by_cases b:k<s.ai.length
  ·have g:decide ((k:Int)<(s.ai.length:Int))=true:=by simp[b]
   have x1:=aV (f:=Ah.C) b;have e:=x9 (p:=λd:Ah=>d.name==name) b
   repeat' first|refine .lb ?_|refine .s1 ?_|(refine .q ?_ ?_<;>intro O)|fail
   ·refine aI rfl (AC.eq ?_);rw[bN,hp,e,if_pos O];rfl
   ·exact⟨b,Z9,Wj,rfl,rfl,Xm⟩
  ·have g:decide ((k:Int)<(s.ai.length:Int))=false:=by simp;omega
   refine .go ?_;refine aI rfl ?_;rw[bN,hp,drop_eq_nil_of_le om];exact AC.tup (AA.cons Dj (aB _))
def G0(s:AJ)(name:AG):(bN s name).1∈s.ai\/(bN s name).1=⟨0,name,[],[],[],[]⟩\/(bN s name).1=yQ:=by
 unfold bN dW;split
 ·rename_i d a;split at a
  ·cases a;exact .inr (.inl rfl)
  ·exact .inl (List.mem_of_find?_eq_some a)
 ·exact .inr (.inr rfl)
def g9{s:AJ}(h:s.size<=68719476736):(bN s name).1.params.length<=68719476736/\(bN s name).1.ax.length<=68719476736/\(bN s name).1.faces.length<=68719476736/\(bN s name).1.fields.length<=68719476736/\∀p∈(bN s name).1.params,p.size<=68719476736:=by
 rcases G0 s name with h1|h1|h1
 ·have a:=l9 h1;have h3:=Ah.lens (bN s name).1;exact⟨om,om,om,om,λp hp=>by have:=Ah.b2 hp;omega⟩
 ·rw[h1];exact⟨Wb,Wb,Wb,Wb,Wb⟩
 ·rw[h1];exact⟨by simp[yQ],by simp[yQ],by simp[yQ],by simp[yQ],by simp[yQ]⟩
def SN(s:AJ)(name:AG)(a:List Int)(hs:s.size<=68719476736)(hk:a.length<=68719476736):AN prog 104 [s.C, .str name, .slice (a.map (AV.int .i64)) .no] (.bool (eP s name a)):=by
 have hf:=Lw s name hs;have O:=JF a (bN s name).1.kind om;refine AI.plain rfl (by simp[AV.K,aA,AJ.K,qM]) (aS [6] func104 ?_);unfold eP
 repeat' first|refine .br ?_|refine .s1 ?_|(refine .q ?_ ?_<;>intro O)|fail
 all_goals
  refine Fin.rb ?_;simp_all
def SO(s:AJ)(name:AG)(hs:s.size<=68719476736):AN prog 183 [s.C, .str name] (.bool (dT s name)):=by have hk:=SN s name [0,4] hs Wd;refine AI.plain rfl Wn (aS [4] func183 ?_);refine .ae ?_;exact bY
def zV(s:AJ)(name:AG)(hs:s.size<=68719476736):AN prog 116 [s.C, .str name] (.bool (g8 s name)):=by have hk:=SN s name [1,2,3] hs Wd;refine AI.plain rfl Wn (aS [4] func116 ?_);refine .ae ?_;exact bY
def zW{t2:Tk}:AC (.agg [.str [], .str [], .int .i64 0, .int .i64 0, .bool false, .int .i64 0, .int .i64 0, .str [], .slice [] t1, .slice [] t2]) Iv.C:=by unfold AP.C Iv;rw[show (bP).lv=[] by rw[bP,sA],show (bP).mv=[] by rw[bP,wO]];exact AC.agg (AA.cons (aG _) (AA.cons (aG _) (AA.cons (aG _) (AA.cons (aG _) (AA.cons (aG _) (AA.cons (aG _) (AA.cons (aG _) (AA.cons (aG _) (AA.cons (AC.no (aB _)) (AA.cons (AC.no (aB _)) (aB _)))))))))))
def UX(p:AP)(name:AG):AN prog 294 [p.C, .ac (.str name)] (.bool (p.name==name)):=by refine AI.plain rfl XD (aS [3] func294 ?_);refine .ae ?_;exact bY
def SP(l:List AP)(name:AG)(c:l.length<=9223372036854775807):AN prog 247 [.slice (l.map AP.C) .no, .str name] (.tup [(qC l name).1.C, .bool (qC l name).2]):=by
 have h:=MW l 294 [.ac (.str name)] (λp=>p.name==name) c rfl (λx _=>UX x name);refine AI.plain XD (by simp[AV.K,aA,bZ]) (cE [.cell 4 136, .tmp 5] func247 ?_);rcases eN (λp:AP=>p.name==name) l 0 with⟨a,b⟩|⟨j,hj,a,b⟩
 ·rw[a]at h;refine .ae ?_;refine aI rfl ?_;rw[qC,sB,b];exact AC.tup (AA.cons zW (aB _))
 ·rw[a]at h;have d:decide (((0+j:Nat):Int)<0)=false:=decide_eq_false om;have x1:(l.map AP.C)[0+j]? =some l[j].C:=by rw[zero_add];exact aV (f:=AP.C) hj
  refine .ae ?_;refine aI rfl (AC.eq ?_);rw[qC,sB,b];rfl
end Go.Proofs.YtimbiifcnhgcoaaGreatDoor
namespace Go.Av
open Go
section
variable [AL]
variable {P:Program} {A:Array Oper} {G:Bool} {K:AX->AE->St->Prop} {C:List Oper} {I:List Aj} {s:AE} {H:St} {d:Option Tmp} {R:TypeId} {D:String} {S:Array Edge}
def yA{f:FuncId}{args:Array Operand}{p:Array TypeId}{xs ys cls cls': List AV}{z n g:Nat}{T': List Tok}(j:Nat)(ha:jZ s args.toList some=some (.slice xs (.own j z)::cls))
  (hp:AI P f (.slice xs (.own 0 z)::cls') ⟨[],[.len n]⟩ (λe l=>e = .ret (.slice ys (.own 0 z))/\l=⟨[],[.len g]⟩)) (hj:H.T[j]? =some (.len n)) (hx:aA xs=true) (o:aA ys=true) (O:aA cls'= true) (hw:AA cls cls')
  (a:jX j (.len g) H.T some=some T') (k:AD P A G K C (.all::I) (iG d (.slice ys (.own j z)) s) ⟨H.B,T'⟩):AD P A G K (⟨d, .call ⟨.value (.func f),args,p⟩,R,D,S,none⟩::C) I s H:=by
 have c:j<H.T.length:=(List.getElem?_eq_some_iff.1 hj).1;have m:emb H.T.length [j] 0=j:=rfl;refine lS (nB:=H.B.length) (nT:=H.T.length) (B0:=[]) (T0:=[.len n]) (B1:=[]) (T1:=[.len g]) (v0 := .slice ys (.own 0 z)) [] [j] ha hp rfl rfl ⟨List.nodup_nil,Wb⟩ ⟨Wb,WA⟩ rfl rfl (λk i ob h=>Wp) (λk i t h ht=> ?_) rfl rfl
  ?_ ?_ ?_ (B':= H.B) (T':= T') ?_ ?_ k
 ·cases k with
  |zero=>simp at h ht;subst h;subst ht;exact hj
  |succ k=>simp at h
 ·simp only[aE,AV.ab,aD _ _ _ hx,aD _ _ _ O];rfl
 ·rw[aX,AV.af,aU _ _ _ hx,aU _ _ _ O];exact AA.cons (aG _) hw
 ·rw[AV.af,aU _ _ _ o];rfl
 ·rw[pN];simp
 ·obtain⟨_,b⟩:=d7 _ _ _ _ _ a;rw[<-Option.some.inj b];simp[eZ,upd,Tok.af]
end
end Go.Av
namespace Go.Proofs.YtimbiifcnhgcoaaGreatDoor
open Go Go.Av Go.Proofs.Tryz
attribute [local irreducible] AB AD AN AI Av.AU AZ
def G1(I:List AG)(x:AG):(cK I x).length<=I.length+1:=by unfold cK;split<;>simp
def JU(n:AG):Bool:=n.take 2==[95,95]
def OP(l:List AG):Bool:=decide l.Nodup
def Lx(l:List AG):Bool := !l.any JU
def sJ(l:List AG):Bool:=OP l&&Lx l
def m7(s:AJ):List AG:=s.ai.map Ah.name
def wY(s:AJ):Bool:=eP s s.query [1]&&(s.av==[]||(s.av != s.query&&eP s s.av [1]))
def iP(l:List AG)(d:Ah)(name:AG):List AG:=if d.kind=1/\name∈d.faces then cK l d.name else l
def j7(s:AJ)(l:List AG)(p:AG):List AG:=if eP s p [1]=true then cK l p else l
def jG(s:AJ)(name:AG):List AG:=
 match dW s name with
 |none=>[]
 |some d=>if d.kind=1 then [name] else if d.kind=2 then s.ai.foldl (λl x=>iP l x name) [] else if d.kind=3 then d.ax.foldl (j7 s) [] else []
def OQ(m n:Int):Int:=IntKind.i64.wrap (((BitVec.ofInt IntKind.i64.bits m) &&& ~~~(BitVec.ofInt IntKind.i64.bits n)).toNat:Int)
def aAy(a b:Ac):Bool:=cG a&&(cG b&&(a.name==b.name&&(a.an==b.an&&OQ b.az a.az==0)))
def Qh(l:List Ag)(name:AG):Option Ag:=l.find? (λf=>f.name==name)
def uF(next:AG->List AG):Nat->Nat->List AG->List AG
 |0,_,l=>l
 |n+1,i,l=>match l[i]? with
  |none=>l
  |some x=>uF next n (i+1) ((next x).foldl cK l)
def qR(s:AJ):List AG:=s.ai.flatMap λd=>d.params.map λp=>p.t.name
def sIf:AG:=[105,102]
def oH:AG:=[115,107,105,112]
def fP:AG:=[105,110,99,108,117,100,101]
def HI(A:List AF)(d:AO):Bool:=
 let v:=(bT sIf d.args).1
 let w:=if v.kind=8 then (bT v.s A).1 else v
 w.kind==1&&w.n==1
def gQ(name:AG)(l:List AO):Option AO:=l.find? λd=>d.name==name
def iT(A:List AF)(l:List AO):Bool:=
 !(match gQ oH l with|some d=>HI A d|none=>false)&&(match gQ fP l with|some d=>HI A d|none=>true)
def kV(s:AJ)(u on:AG):Bool:=on==[]||(on==u||decide (u∈jG s on))
def jH(x:Sl):AG:=if x.kind≠0 then [] else if x.bm≠[] then x.bm else x.name
def iQ(d:AR)(name:AG):Option Af:=d.aj.find? λf=>f.name==name
structure Gs where
 met:List AG
 out:List AT
def kK(x:Sl):List AT->List AT
 |[]=>[⟨jH x,[x]⟩]
 |g::l=>if g.key=jH x then ⟨g.key,g.O++[x]⟩::l else g::kK x l
def fQ(s:AJ)(d:AR)(A:List AF)(u:AG):Nat->List Sl->Gs->Gs
 |_,[],g=>g
 |n, .mk k a nm ar di on se::l,g=>
  let x:=Sl.mk k a nm ar di on se
  fQ s d A u n l (
   if iT A di=false then g
   else if k=0 then ⟨g.met,kK x g.out⟩
   else if k=1 then
    (if nm∈g.met then g else match iQ d nm with
     |none=>⟨g.met++[nm],g.out⟩
     |some f=>if kV s u f.on=true then (match n with
       |0=>⟨g.met++[nm],g.out⟩
       |n+1=>fQ s d A u n f.O ⟨g.met++[nm],g.out⟩) else ⟨g.met++[nm],g.out⟩)
   else if k=2 then (if kV s u on=true then fQ s d A u n se g else g)
   else g)
termination_by n l=>(n,fN l)
decreasing_by
 all_goals simp_wf
 all_goals simp only[fN,Sl.size]
 all_goals first|exact Prod.Lex.left _ _ (Nat.lt_succ_self _)|(apply Prod.Lex.right;omega)
def jN(s:AJ)(d:AR)(A:List AF)(u:AG)(n:Nat)(x:Sl)(g:Gs):Gs:=
 if iT A x.ar=false then g
 else if x.kind=0 then ⟨g.met,kK x g.out⟩
 else if x.kind=1 then
  (if x.name∈g.met then g else match iQ d x.name with
   |none=>⟨g.met++[x.name],g.out⟩
   |some f=>if kV s u f.on=true then (match n with
     |0=>⟨g.met++[x.name],g.out⟩
     |n+1=>fQ s d A u n f.O ⟨g.met++[x.name],g.out⟩) else ⟨g.met++[x.name],g.out⟩)
 else if x.kind=2 then (if kV s u x.on=true then fQ s d A u n x.O g else g)
 else g
theorem fL(s:AJ)(d:AR)(A:List AF)(u:AG)(n:Nat)(g:Gs):fQ s d A u n [] g=g:=by rw[fQ]
theorem gD(s:AJ)(d:AR)(A:List AF)(u:AG)(n:Nat)(x:Sl)(l:List Sl)(g:Gs):fQ s d A u n (x::l) g=fQ s d A u n l (jN s d A u n x g):=by cases x;rw[fQ];rfl
def bF(s:AJ)(d:AR)(A:List AF)(u:AG)(l:List Sl):List AT:=(fQ s d A u d.aj.length l ⟨[],[]⟩).out
def bO(l:List Sl):List Sl:=l.flatMap Sl.O
def aAz{w:World}{im:Nat->Nat->Prop}(a:Aq im w):Lib.TabIs prog w "internal/strconv.uint64pow10" .u64 Lib.pow10Tab:=by
 have h0:=Aq.a6 (g:=⟨[],[],im⟩) a (p:=(2, .agg (Lib.pow10Tab.map (AV.int .u64)))) (.tail _ (.tail _ (.head _)));have hn:=(a.2 (2,20) (.head _)).2;have O:=λi z hz=>xO h0 i z hz
 unfold Lib.TabIs World.var?;rw[show prog.globalNamed "internal/strconv.uint64pow10" =some 2 by kernel_rfl,Option.bind_some];have b:=O 0 1 Wd;unfold World.cell? at b hn O;dsimp only at b hn O;split at b
 case h_2=>cases b
 case h_1 cs e fz hh=>
  rw[hh]at hn O;simp only[Option.isSome_none,Bool.false_eq_true,if_false]at hn O;rw[hh];refine congrArg some (Array.ext_getElem? λi=> ?_);simp only[List.getElem?_toArray,List.getElem?_map,Array.getElem?_toList];by_cases X:i<20
  ·have c:i<Lib.pow10Tab.length:=by rw[Lib.pow10Tab_length];exact X
   rw[O i Lib.pow10Tab[i] (getElem?_eq_getElem c),getElem?_eq_getElem c];rfl
  ·rw[List.getElem?_eq_none (by rw[Lib.pow10Tab_length];omega),Array.getElem?_eq_none (by have:=Array.getElem?_eq_none_iff.1 hn;omega)];rfl
def IK(n:Int)(h0 : -9223372036854775808<=n)(i:n<=9223372036854775807):AN prog 185 [.int .i64 n, .int .i64 10] (.str (Lib.itoa n)):=by
 refine y5 ⟨_,func185,rfl,rfl⟩ rfl (λim w J j c l=> ?_);obtain⟨v,C,e,m,o,a,h,g,hr⟩:=l;have f:v = .int .i64 n:=m;have b:o = .int .i64 10:=g;have d:a=[]:=hr;subst f;subst h;subst b;subst d;obtain rfl:J = #[.int .i64 n, .int .i64 10]:=by cases J;simp_all
 refine(pU n h0 i w (aAz c)).mono ?_;rintro e w' ⟨rfl,k,os,rfl⟩;exact⟨⟨_,rfl,rfl⟩,Lib.below_grow _ w (le_refl _) k os⟩
def G2(u k:Nat)(h:u<10 ^ (k+1)):Lib.nDigits u<=k+1:=by
 induction k generalizing u with
 |zero=>rw[Lib.nDigits_small Wu];exact le_refl _
 |succ k E=>
  by_cases c:u<10
  ·rw[Lib.nDigits_small c];omega
  ·rw[Lib.nDigits_big c];have:=E (u/10) (by rw[Nat.pow_succ]at h;omega);omega
def SQ(n:Int)(h0 : -9223372036854775808<=n)(a:n<=9223372036854775807):(Lib.itoa n).length<=21:=by
 unfold Lib.itoa;split
 ·rw[List.length_cons,Lib.decDigits_length];have:=G2 n.natAbs 19 om;omega
 ·rw[Lib.decDigits_length];have:=G2 n.toNat 19 om;omega
def Dk(name:AG)(v:AH):AH×Int:=
 if name=C9 then (if v.kind=2 then (if v.n < -2147483648\/2147483647<v.n then (bP,8) else (v,0)) else (bP,7))
 else if name=g7 then (if v.kind=1 then (v,0) else (bP,7))
 else if name=sID/\v.kind=2 then (iF (Lib.itoa v.n),0)
 else if name=sID\/name=dC then (if v.kind=4 then (v,0) else (bP,7))
 else (bP,7)
def zX(s:AJ)(name:AG)(v:AH):AH×Int:=
 if gW fO v=false\/dT s name=false then (bP,1)
 else if (bN s name).1.kind=4 then (if v.kind=4/\v.s∈(bN s name).1.ax then (v,0) else (bP,7))
 else Dk name v
def aDE(s:AJ)(name:AG)(v:AH)(hs:s.size<=68719476736)(hv:rC v)(h0 : -9223372036854775808<=v.n)(h1:v.n<=9223372036854775807):
  AN prog 117 [s.C, .str name,v.C] (.tup [(zX s name v).1.C, .int .i64 (zX s name v).2]):=by
 have x:=R7 v hv;have y:=SO s name hs;have hf:=Lw s name hs;have i:=g9 (name:=name) hs;have X:=IK v.n h0 h1;have ht:=MV (Lib.itoa v.n);refine AI.plain W3 (by simp[AV.K,aA,AJ.K,AH.K]) (cE [.cell 6 43, .tmp 7] func117 ?_);unfold zX;cases u:gW fO v with
 |false=>rw[u]at x;rw[if_pos (.inl rfl)];refine .ae ?_;exact aI rfl (AC.tup (AA.cons cF (aB _)))
 |true=>
  rw[u]at x;cases w:dT s name with
  |false=>rw[w]at y;rw[if_pos (.inr rfl)];refine .ae ?_;exact aI rfl (AC.tup (AA.cons cF (aB _)))
  |true=>
   rw[w]at y;rw[if_neg Wb];generalize bN s name=fr at hf i;obtain⟨d,ok⟩:=fr;simp only at hf i ⊢;have O:=gN d.ax v.s om;by_cases k:d.kind=4
   ·have e4:(d.kind==4)=true:=by simp[k]
    rw[if_pos k];by_cases a:v.kind=4
    ·have j:(v.kind==4)=true:=by simp[a]
     have c:(!(v.kind==4))=false:=Ww
     by_cases l:v.s∈d.ax
     ·rw[decide_eq_true l]at O;rw[if_pos ⟨a,l⟩];refine .ae ?_;exact aO
     ·rw[decide_eq_false l]at O;rw[if_neg (λh=>l h.2)];refine .ae ?_;exact aI rfl (AC.tup (AA.cons cF (aB _)))
    ·have j:(v.kind==4)=false:=by simp[a]
     have c:(!(v.kind==4))=true:=Ww
     rw[if_neg (λh=>a h.1)];refine .ae ?_;exact aI rfl (AC.tup (AA.cons cF (aB _)))
   ·have e4:(d.kind==4)=false:=by simp[k]
    rw[if_neg k];unfold Dk;by_cases m:name=C9
    ·have b1:(name==[73,110,116])=true:=by rw[m];rfl
     rw[if_pos m];by_cases b:v.kind=2
     ·have t:(v.kind==2)=true:=by simp[b]
      have f:(!(v.kind==2))=false:=X9
      rw[if_pos b];by_cases hr:v.n < -2147483648\/2147483647<v.n
      ·rw[if_pos hr];rcases hr with hr|hr
       ·have z:decide (v.n < -2147483648)=true:=decide_eq_true hr;refine .ae ?_;exact aI rfl (AC.tup (AA.cons cF (aB _)))
       ·have z:decide (v.n < -2147483648)=false:=decide_eq_false om;have r2:decide (2147483647<v.n)=true:=decide_eq_true hr;refine .ae ?_;exact aI rfl (AC.tup (AA.cons cF (aB _)))
      ·have z:decide (v.n < -2147483648)=false:=decide_eq_false om;have r2:decide (2147483647<v.n)=false:=decide_eq_false om;rw[if_neg hr];refine .ae ?_;exact aO
     ·have t:(v.kind==2)=false:=by simp[b]
      have f:(!(v.kind==2))=true:=X9
      rw[if_neg b];refine .ae ?_;exact aI rfl (AC.tup (AA.cons cF (aB _)))
    ·have b1:(name==[73,110,116])=false:=by simpa [C9]using m
     rw[if_neg m];by_cases o:name=g7
     ·have b2:(name==[66,111,111,108,101,97,110])=true:=by rw[o];rfl
      rw[if_pos o];by_cases g:v.kind=1
      ·have q1:(v.kind==1)=true:=by simp[g]
       have r:(!(v.kind==1))=false:=by simp[g]
       rw[if_pos g];refine .ae ?_;exact aO
      ·have q1:(v.kind==1)=false:=by simp[g]
       have r:(!(v.kind==1))=true:=by simp[g]
       rw[if_neg g];refine .ae ?_;exact aI rfl (AC.tup (AA.cons cF (aB _)))
     ·have b2:(name==[66,111,111,108,101,97,110])=false:=by simpa [g7]using o
      rw[if_neg o];by_cases e:name=sID
      ·have b3:(name==[73,68])=true:=by rw[e];rfl
       have q:(name != [73,68])=false:=by rw[e];rfl
       by_cases b:v.kind=2
       ·have t:(v.kind==2)=true:=by simp[b]
        have f:(!(v.kind==2))=false:=X9
        rw[if_pos ⟨e,b⟩];refine .ae ?_;exact aO
       ·have t:(v.kind==2)=false:=by simp[b]
        have f:(!(v.kind==2))=true:=X9
        rw[if_neg (λh=>b h.2),if_pos (.inl e)];by_cases a:v.kind=4
        ·have j:(v.kind==4)=true:=by simp[a]
         have c:(!(v.kind==4))=false:=Ww
         rw[if_pos a];refine .ae ?_;exact aO
        ·have j:(v.kind==4)=false:=by simp[a]
         have c:(!(v.kind==4))=true:=Ww
         rw[if_neg a];refine .ae ?_;exact aI rfl (AC.tup (AA.cons cF (aB _)))
      ·have b3:(name==[73,68])=false:=by simpa [sID]using e
       have q:(name != [73,68])=true:=by simpa [sID]using e
       rw[if_neg (λh=>e h.1)];by_cases p:name=dC
       ·have b4:(name != [83,116,114,105,110,103])=false:=by rw[p];rfl
        rw[if_pos (.inr p)];by_cases a:v.kind=4
        ·have j:(v.kind==4)=true:=by simp[a]
         have c:(!(v.kind==4))=false:=Ww
         rw[if_pos a];refine .ae ?_;exact aO
        ·have j:(v.kind==4)=false:=by simp[a]
         have c:(!(v.kind==4))=true:=Ww
         rw[if_neg a];refine .ae ?_;exact aI rfl (AC.tup (AA.cons cF (aB _)))
       ·have b4:(name != [83,116,114,105,110,103])=true:=by simpa [dC]using p
        rw[if_neg (λh=>h.elim e p)];refine .ae ?_;exact aI rfl (AC.tup (AA.cons cF (aB _)))
def HJ(U l:List AG):Nat:=U.countP λu => !decide (u∈l)
theorem G3{l:List AG}{x y:AG}:y∈cK l x↔y∈l\/y=x:=by grind[cK]
def Nh(l:List AG)(x:AG):∃r,cK l x=l++r:=by
 unfold cK;split
 ·simp_all
 ·simp_all
def Ni(xs l:List AG):∃r,xs.foldl cK l=l++r:=by
 induction xs generalizing l with
 |nil=>exact⟨[],Wb⟩
 |cons x xs E=>obtain⟨c,a⟩:=Nh l x;obtain⟨d,b⟩:=E (cK l x);simp_all
def UY{l:List AG}{x:AG}(hx:x∈U)(hn:x∉l):HJ U (l++[x])+1<=HJ U l:=by
 unfold HJ;induction U with
 |nil=>simp at hx
 |cons u U E=>
  have a:∀V:List AG,V.countP (λu => !decide (u∈l++[x]))<=V.countP (λu => !decide (u∈l)):=λV=>by apply List.countP_mono_left;simp_all
  grind
def Nj{l:List AG}{x:AG}(hx:x∈U):HJ U (cK l x)+(cK l x).length<=HJ U l+l.length:=by
 unfold cK;split
 ·omega
 ·rename_i h;have:=UY hx h;grind
def G4{l:List AG}(h:∀x∈xs,x∈U):HJ U (xs.foldl cK l)+(xs.foldl cK l).length<=HJ U l+l.length:=by
 induction xs generalizing l with
 |nil=>exact le_refl _
 |cons x xs E=>exact Nat.le_trans (E λy a=>h y (List.mem_cons_of_mem _ a)) (Nj (h x (List.mem_cons_self ..)))
def aBA(U l:List AG):HJ U l<=U.length:=List.countP_le_length ..
def JV{s:AJ}{p:AP}(h:p∈(bN s name).1.params):(bN s name).1∈s.ai:=by
 rcases G0 s name with h1|h1|h1
 ·exact h1
 ·simp_all
 ·rw[h1]at h;simp[yQ]at h
def Nk{s:AJ}{p:AP}(h:p∈(bN s name).1.params):p.t.name∈qR s:=
 List.mem_flatMap.2 ⟨_,JV h,List.mem_map.2 ⟨p,h,rfl⟩⟩
def JW(s:AJ)(p:AP):Bool:=decide (p.t.an=0)&&(decide (p.t.az=1)&&eP s p.t.name [5])
def iA(s:AJ)(name:AG):List AG:=if (bN s name).1.kind=5 then ((bN s name).1.params.filter (JW s)).map λp=>p.t.name else []
def IL(s:AJ)(name:AG):Bool:=decide (name∈uF (iA s) ((iA s name).length+(qR s).length) 0 (iA s name))
def OR(s:AJ):Bool := !s.ai.any λd=>IL s d.name
def Nl{s:AJ}(x:AG):∀y∈iA s x,y∈qR s:=λy a=>by
 unfold iA at a;split at a
 ·obtain⟨p,hp,rfl⟩:=List.mem_map.1 a;exact Nk (List.mem_filter.1 hp).1
 simp_all
def Nm{l:List Ah}{d:Ah}(hn:(l.map Ah.name).Nodup)(a:d∈l):l.find? (λx=>x.name==d.name)=some d:=by
 induction l with
 |nil=>simp at a
 |cons x l E=>grind
def aY:AG:=[95,95,116,121,112,101,110,97,109,101]
def jW(s:AJ)(u name:AG):Option Ag:=
 if name=aY/\g8 s u=true then some ⟨name,[],⟨dC,0,1⟩,[]⟩ else if (bN s u).1.kind=1\/(bN s u).1.kind=2 then Qh (bN s u).1.fields name else none
section
variable {s s': AJ} (hf:∀n,dW s' n=dW s n)
include hf
end
theorem Qi{a:List Ah}{l:List AG}:x∈a.foldl (λl x=>iP l x name) l↔x∈l\/∃d∈a,d.kind=1/\name∈d.faces/\d.name=x:=by
 induction a generalizing l with
 |nil=>simp
 |cons d a E=>
  rw[List.foldl_cons,E];unfold iP;split
  ·rename_i h;rw[G3];constructor
   ·rintro ((h1|h1)|⟨q,hq,h2⟩)
    ·exact .inl h1
    ·exact .inr ⟨d,List.mem_cons_self .., h.1,h.2,h1.symm⟩
    ·exact .inr ⟨q,List.mem_cons_of_mem _ hq,h2⟩
   ·rintro (h1|⟨q,hq,h2,h3,h4⟩)
    ·exact .inl (.inl h1)
    ·rcases mem_cons.1 hq with rfl|hq
     ·exact .inl (.inr h4.symm)
     ·exact .inr ⟨q,hq,h2,h3,h4⟩
  ·rename_i h;constructor
   ·rintro (h1|⟨q,hq,h2⟩)
    ·exact .inl h1
    ·exact .inr ⟨q,List.mem_cons_of_mem _ hq,h2⟩
   ·rintro (h1|⟨q,hq,h2,h3,h4⟩)
    ·exact .inl h1
    ·rcases mem_cons.1 hq with rfl|hq
     ·exact absurd ⟨h2,h3⟩ h
     ·exact .inr ⟨q,hq,h2,h3,h4⟩
theorem Qj{s:AJ}{x:AG}{ps l:List AG}:x∈ps.foldl (j7 s) l↔x∈l\/(x∈ps/\eP s x [1]=true):=by
 induction ps generalizing l with
 |nil=>simp
 |cons p ps E=>
  rw[List.foldl_cons,E];unfold j7;split
  ·rename_i h;rw[G3,mem_cons];constructor
   ·rintro ((h1|rfl)|h1)
    ·exact .inl h1
    ·exact .inr ⟨.inl rfl,h⟩
    ·exact .inr ⟨.inr h1.1,h1.2⟩
   ·rintro (h1|⟨rfl|h1,h2⟩)
    ·exact .inl (.inl h1)
    ·exact .inl (.inr rfl)
    ·exact .inr ⟨h1,h2⟩
  ·rename_i h;rw[mem_cons];constructor
   ·rintro (h1|h1)
    ·exact .inl h1
    ·exact .inr ⟨.inr h1.1,h1.2⟩
   ·rintro (h1|⟨rfl|h1,h2⟩)
    ·exact .inl h1
    ·exact absurd h2 h
    ·exact .inr ⟨h1,h2⟩
def G5{s:AJ}:x∈jG s name↔∃d,dW s name=some d/\((d.kind=1/\x=name)\/(d.kind=2/\∃e∈s.ai,e.kind=1/\name∈e.faces/\e.name=x)\/(d.kind=3/\x∈d.ax/\eP s x [1]=true)):=by
 unfold jG;cases h:dW s name with
 |none=>simp
 |some d=>
  simp only[Option.some.injEq,exists_eq_left'];by_cases a:d.kind=1
  ·simp[a]
  ·by_cases b:d.kind=2
   ·rw[if_neg a,if_pos b,Qi];simp[b]
   ·by_cases c:d.kind=3
    ·rw[if_neg a,if_neg b,if_pos c,Qj];simp[c]
    ·rw[if_neg a,if_neg b,if_neg c];simp[a,b,c]
def G6{s:AJ}{n:AG}{d:Ah}(h:dW s n=some d)(hk:d.kind≠0):d∈s.ai/\d.name=n:=by
 unfold dW at h;split at h
 ·cases h;exact absurd rfl hk
 ·exact⟨List.mem_of_find?_eq_some h,by simpa using List.find?_some h⟩
def uZ:Ag:=⟨[],[],⟨[],0,0⟩,[]⟩
def aK(s:AJ)(u name:AG):Ag×Bool:=match jW s u name with
 |none=>(uZ,false)
 |some f=>(f,true)
structure BO where
 how:Int
 table:AG
 col:AG
 arg:AG
 b7:AG
 deriving DecidableEq
def BO.C(b:BO):AV := .agg [.int .i64 b.how, .str b.table, .str b.col, .str b.arg, .str b.b7]
theorem BO.K(b:BO):b.C.K=true:=rfl
@[simp] theorem aDe(n m:Nat)(x:BO):(BO.C x).ab n m=true:=aF n m _ (BO.K x)
def sK:BO:=⟨0,[],[],[],[]⟩
def uG(l:List AF):List AG->Option (List AG)
 |[]=>some []
 |n::ns=>if (bT n l).2=true/\(bT n l).1.kind=4/\(bT n l).1.s≠[] then (uG l ns).map ((bT n l).1.s :: ·) else none
def dF(l:List AF)(ns:List AG):Option (List AG):=if l.length=ns.length then uG l ns else none
def G7(l:List AF):∀(ns xs:List AG),uG l ns=some xs->xs.length=ns.length/\∀x∈xs,x≠[]
 |[],xs,h=>by cases h;simp
 |n::ns,xs,h=>by
  rw[uG]at h
  split at h
  ·rename_i c
   cases e:uG l ns with
   |none=>rw[e]at h;cases h
   |some ys=>
    rw[e]at h
    cases h
    obtain⟨a,b⟩:=G7 l ns ys e
    refine⟨Ww,λx hx=> ?_⟩
    rcases mem_cons.1 hx with rfl|hx
    ·exact c.2.2
    ·exact b x hx
  ·cases h
def zY{ns:List AG}(h:dF l ns=some xs):xs.length=ns.length/\∀x∈xs,x≠[]:=by
 unfold dF at h;split at h
 ·exact G7 l ns xs h
 ·cases h
def uH{a:AG}{xs:List AG}(h:dF l [a]=some xs):∃x,xs=[x]/\x≠[]:=by
 obtain⟨b,c⟩:=zY h
 match xs,b with
 |[x],_=>exact⟨x,rfl,c x Wb⟩
def gE{a b:AG}{xs:List AG}(h:dF l [a,b]=some xs):∃x y,xs=[x,y]/\x≠[]/\y≠[]:=by
 obtain⟨d,c⟩:=zY h
 match xs,d with
 |[x,y],_=>exact⟨x,y,rfl,c x Wb,c y Wb⟩
def pJ{a b c:AG}{xs:List AG}(h:dF l [a,b,c]=some xs):∃x y z,xs=[x,y,z]/\x≠[]/\y≠[]/\z≠[]:=by
 obtain⟨e,d⟩:=zY h
 match xs,e with
 |[x,y,z],_=>exact⟨x,y,z,rfl,d x Wb,d y Wb,d z Wb⟩
def nW:AG:=[99,111,108]
def Dl:AG:=[108,105,110,107]
def JX:AG:=[103,101,116]
def sDo:AG:=[100,111]
def Dm:AG:=[110,97,109,101]
def dL:AG:=[116,97,98,108,101]
def JY:AG:=[97,114,103]
def uI:AG:=[99,109,100]
def aDF:AG:=[97,100,100]
def Qk:AG:=[112,117,116]
def Ql:AG:=[99,117,116]
def IN:AG:=[98,117,114,110]
def Qm(f:Ag)(table arg:AG):BO×Bool:=match sB f.params arg with
 |none=>(sK,false)
 |some p=>if (p.t.name=sID\/p.t.name=dC)/\p.t.an=f.t.an then (⟨2,table,[],arg,[]⟩,true) else (sK,false)
def doB(l:List AF):BO×Bool:=match dF l [uI,dL,nW] with
 |some [a,b,c]=>(⟨3,b,c,[],a⟩,a==aDF)
 |_=>match dF l [uI,dL] with
  |some [a,b]=>(⟨3,b,[],[],a⟩,a==Qk||(a==Ql||a==IN))
  |_=>(sK,false)
def JZ(f:Ag)(d:AO):BO×Bool:=
 if d.name=nW then (match dF d.args [Dm] with|some [a]=>(⟨0,[],a,[],[]⟩,true)|_=>(sK,false))
 else if d.name=Dl then (match dF d.args [dL,nW] with|some [a,b]=>(⟨1,a,b,[],[]⟩,true)|_=>(sK,false))
 else if d.name=JX then (match dF d.args [dL,JY] with|some [a,b]=>Qm f a b|_=>(sK,false))
 else if d.name=sDo then doB d.args else (sK,false)
def jO(f:Ag):BO×Bool:=match f.ar with
 |[]=>(⟨0,[],f.name,[],[]⟩,true)
 |[d]=>JZ f d
 |_=>(sK,false)
def fY(s:AJ)(u:AG):Bool:=s.av != []&&u==s.av
def m8(s:AJ)(name:AG):Bool:=g8 s name && !(s.av != []&&decide (s.av∈jG s name))
def DX(s:AJ)(u:AG)(f:Ag)(how:Int):Bool:=
 if how=0 then dT s f.t.name && !fY s u
 else if how=3 then decide (f.t.an=0)&&((dT s f.t.name||m8 s f.t.name)&&fY s u)
 else m8 s f.t.name && !fY s u
def ofB(s:AJ)(u:AG)(f:Ag):BO×Bool:=if (jO f).2=true/\f.name≠aY/\DX s u f (jO f).1.how=true then ((jO f).1,true) else (sK,false)
def G8{f:Ag}(h:(jO f).2=true):((jO f).1.how=0\/(jO f).1.how=1\/(jO f).1.how=2\/(jO f).1.how=3)/\((jO f).1.how=1\/(jO f).1.how=2->(jO f).1.table≠[])/\
  ((jO f).1.how=2->∃p∈f.params,p.name=(jO f).1.arg/\p.t.an=f.t.an/\(p.t.name=sID\/p.t.name=dC)):=by
 unfold jO at h ⊢;split at h
 ·simp_all
 ·rename_i d g;unfold JZ at h ⊢;split at h
  ·rename_i c;rw[if_pos c];cases e:dF d.args [Dm] with
   |none=>rw[e]at h;cases h
   |some xs=>obtain⟨x,rfl,_⟩:=uH e;simp
  rename_i i;rw[if_neg i];split at h
  ·rename_i c;rw[if_pos c];cases e:dF d.args [dL,nW] with
   |none=>rw[e]at h;cases h
   |some xs=>obtain⟨x,y,rfl,hx,m⟩:=gE e;simp[hx]
  rename_i j;rw[if_neg j];split at h
  ·rename_i c;rw[if_pos c];cases e:dF d.args [dL,JY] with
   |none=>rw[e]at h;cases h
   |some xs=>
    obtain⟨x,y,rfl,hx,m⟩:=gE e;rw[e]at h;dsimp only at h ⊢;unfold Qm at h ⊢;cases b:sB f.params y with
    |none=>rw[b]at h;cases h
    |some p=>
     rw[b]at h;dsimp only at h ⊢;by_cases a:(p.t.name=sID\/p.t.name=dC)/\p.t.an=f.t.an
     ·rw[if_pos a];refine⟨.inr (.inr (.inl rfl)),λ_=>hx,λ_=>⟨p,List.mem_of_find?_eq_some b,by simpa using List.find?_some b,a.2,a.1⟩⟩
     ·rw[if_neg a]at h;cases h
  rename_i k;rw[if_neg k];split at h
  ·rename_i c;rw[if_pos c];have g:(doB d.args).2=true->(doB d.args).1.how=3:=by
    unfold doB;cases e:dF d.args [uI,dL,nW] with
    |some xs=>obtain⟨x,y,z,rfl,_⟩:=pJ e;exact λ_=>rfl
    |none=>
     dsimp only;cases l:dF d.args [uI,dL] with
     |some xs=>obtain⟨x,y,rfl,_⟩:=gE l;exact λ_=>rfl
     |none=>intro h;cases h
   have:=g h;omega
  ·cases h
 ·cases h
def Fk{s:AJ}{u:AG}{f:Ag}(h:(ofB s u f).2=true):(jO f).2=true/\(ofB s u f).1=(jO f).1/\DX s u f (ofB s u f).1.how=true:=by
 unfold ofB at h ⊢;by_cases c:(jO f).2=true/\f.name≠aY/\DX s u f (jO f).1.how=true
 ·rw[if_pos c];exact⟨c.1,rfl,c.2.2⟩
 ·rw[if_neg c]at h;cases h
def G9{s:AJ}{u:AG}{f:Ag}(h:(ofB s u f).2=true):(decide ((ofB s u f).1.how=3)=fY s u)/\((ofB s u f).1.how=0->dT s f.t.name=true)/\
  ((ofB s u f).1.how=1\/(ofB s u f).1.how=2->g8 s f.t.name=true/\(ofB s u f).1.table≠[]):=by
 obtain⟨d,g,h3⟩:=Fk h;obtain⟨i,c,_⟩:=G8 d;rw[g]at h3 ⊢;unfold DX m8 at h3;refine⟨?_,λe=> ?_,λe=> ?_⟩
 ·by_cases b:(jO f).1.how=0
  ·rw[if_pos b]at h3;simp only[and_eq_true,Bool.not_eq_true']at h3;rw[h3.2,b];rfl
  ·rw[if_neg b]at h3;by_cases a:(jO f).1.how=3
   ·rw[if_pos a]at h3;simp only[and_eq_true,Bool.not_eq_true']at h3;rw[h3.2.2,a];rfl
   ·rw[if_neg a]at h3;simp only[and_eq_true,Bool.not_eq_true']at h3;rw[h3.2];simp[a]
 ·rw[if_pos e,and_eq_true]at h3;exact h3.1
 ·rw[if_neg om,if_neg om]at h3;simp only[and_eq_true]at h3;exact⟨h3.1.1,c e⟩
abbrev VE:=AH×Int
def oX(name:AG)(v:AH):VE:=
 if name=C9/\v.kind=2/\(v.n < -2147483648\/2147483647<v.n) then (bP,8)
 else if name=sID/\v.kind=2 then (iF (Lib.itoa v.n),0)
 else if (name=C9/\v.kind=2)\/(name=g7/\v.kind=1)\/((name=dC\/name=sID)/\v.kind=4) then (v,0) else (bP,7)
def uJ(wr:Bool)(d:Ah)(k:Int)(str:AG):VE:=if k=(if wr=true then 5 else 4)/\str∈d.ax then (iF str,0) else (bP,7)
def oI(A:List AF)(name:AG):Option AH:=(A.find? λm=>m.name==name).map AF.v
def fS(wr:Bool)(A:List AF)(v:AH):Bool := !(wr&&v.kind==8)||(oI A v.s).isSome
def OS:Nat->AH->AH
 |0,v=>v
 |n+1,v => .mk 6 0 [] [OS n v] []
def IP(n:Nat)(r:VE):VE:=if r.2=0 then (OS n r.1,0) else r
abbrev MF:=AG×AH×(Ac->VE)
def zZ(fs:List MF)(name:AG):Option MF:=fs.find? λf=>f.1==name
def o8(s:AJ)(wr within:Bool)(A:List AF)(dfl:AP->VE)(fs:List MF)(p:AP):AH×Bool×Int:=
 match (zZ fs p.name).bind λf=>if fS wr A f.2.1=true then some f else none with
 |some f=>((f.2.2 p.t).1,true,(f.2.2 p.t).2)
 |none=>if p.has=true/\(within=false\/dT s p.t.name=true) then ((dfl p).1,true,(dfl p).2) else if isT p.t=true then (bP,false,9) else (bP,false,0)
def kW(s:AJ)(wr within:Bool)(A:List AF)(dfl:AP->VE)(fs:List MF):List AP->List AF×Int
 |[]=>([],0)
 |p::ps=>
  let r:=o8 s wr within A dfl fs p
  if r.2.2≠0 then ([],r.2.2) else
   let q:=kW s wr within A dfl fs ps
   if q.2≠0 then ([],q.2) else (if r.2.1=true then .mk p.name r.1::q.1 else q.1,0)
def Fl(wr:Bool)(A:List AF)(fs:List MF)(ps:List AP):Bool:=fs.any λf=>(sB ps f.1).isNone&&(match zZ fs f.1 with|some g=>fS wr A g.2.1|none=>false)
def m9(s:AJ)(wr:Bool)(A:List AF)(dfl:AP->VE)(fs:List MF)(d:Ah):VE:=
 if Fl wr A fs d.params=true then (bP,6) else
  let q:=kW s wr true A dfl fs d.params
  if q.2≠0 then (bP,q.2) else (.mk 7 0 [] [] q.1,0)
def mB(s:AJ)(wr:Bool)(A:List AF)(dfl:AP->VE)(name:AG)(v:AH)(fs:List MF):VE:=
 match dW s name with
 |none=>(bP,7)
 |some d=>if d.kind=0 then oX name v else if d.kind=4 then uJ wr d v.kind v.s else if d.kind=5 then (if v.kind=7 then m9 s wr A dfl fs d else (bP,7)) else (bP,7)
def gR(wr:Bool)(t:Ac)(k:Int):Bool:=decide (0<t.an)&&(k != 6&&(k != 0 && !(wr&&k==8)))
mutual
def mkV(s:AJ)(wr:Bool)(A:List AF)(dfl:AP->VE):AH->Ac->VE
 | .mk k n str l m,t=>
  if wr=true/\k=8 then (match oI A str with
   |some x=>if x.kind=0/\isT t=true then (bP,9) else (x,0)
   |none=>if isT t=true then (bP,9) else (bP,0))
  else if k=0 then (if isT t=true then (bP,9) else (.mk k n str l m,0))
  else if cG t=true/\t.an≠0 then
   (if k=6 then (let q:=mkL s wr A dfl l (cB t);if q.2≠0 then (bP,q.2) else (.mk 6 0 [] q.1 [],0))
   else IP t.an.toNat (mB s wr A dfl t.name (.mk k n str l m) (mkM s wr A dfl m)))
  else mB s wr A dfl t.name (.mk k n str l m) (mkM s wr A dfl m)
def mkL(s:AJ)(wr:Bool)(A:List AF)(dfl:AP->VE):List AH->Ac->List AH×Int
 |[],_=>([],0)
 |v::l,t=>
  if gR wr t v.kind=true then ([],7) else
   let r:=mkV s wr A dfl v t
   if r.2≠0 then ([],r.2) else
    let q:=mkL s wr A dfl l t
    if q.2≠0 then ([],q.2) else (r.1::q.1,0)
def mkM(s:AJ)(wr:Bool)(A:List AF)(dfl:AP->VE):List AF->List MF
 |[]=>[]
 | .mk nm v::m=>(nm,v,λt=>if cG t=true/\gW fO v=true then mkV s wr A dfl v t else (bP,1))::mkM s wr A dfl m
end
def IQ:AP->VE:=λ_=>(bP,7)
def qG(s:AJ)(wr:Bool)(A:List AF)(dfl:AP->VE)(t:Ac)(v:AH):VE:=if cG t=true/\gW fO v=true then mkV s wr A dfl v t else (bP,1)
def cY(s:AJ):AP->VE:=λp=>qG s true [] IQ p.t p.d
def aDG(s:AJ)(t:Ac)(v:AH)(A:List AF):VE:=qG s true A (cY s) t v
def kX(s:AJ):AP->VE:=λp=>aDG s p.t p.d []
def dU(s:AJ)(ps:List AP)(args A:List AF):List AF×Int:=kW s true false A (kX s) (mkM s true A (cY s) args) ps
def Ha(s:AJ)(ps:List AP)(vars:List AF):List AF×Int:=kW s false false [] (kX s) (mkM s false [] (cY s) vars) ps
def Ly(N:Nat)(E:∀a b:AH,a.size<=N->AN prog 124 [a.C,b.C] (.bool (o6 a b)))(a b:List AF)(ha:a.length<=9223372036854775807)(hs:∀x∈a,x.v.size<=N):
  AN prog 72 [.slice (a.map AF.C) .no, .slice (b.map AF.C) .no] (.bool (nH a b)):=by
 refine AI.plain rfl (by simp[aA,AV.K,aR]) (aS [4] func72 ?_);by_cases g:a.length=b.length
 ·have h:((a.length:Int) != (b.length:Int))=false:=by simp[g]
  refine .go ?_;change AB _ _ _ _ _ _ _;refine AB.loop (λn s H=>∃k:Nat,n=a.length-k/\k<=a.length/\nH a b=nH (a.drop k) (b.drop k)/\H=⟨[],[]⟩/\
   s=[(5, .int .i64 k),(0, .slice (a.map AF.C) .no),(1, .slice (b.map AF.C) .no)])
   (s0:=[(5, .int .i64 (0:Nat)),(0, .slice (a.map AF.C) .no),(1, .slice (b.map AF.C) .no)])
   Z9 ⟨0,rfl,zero_le _,rfl,rfl,rfl⟩ ?_
  rintro n s H ⟨k,rfl,hk,hp,rfl,rfl⟩;by_cases c:k<a.length
  ·have i:decide ((k:Int)<(a.length:Int))=true:=by simp[c]
   have x1:=aV (f:=AF.C) c;have d:k<b.length:=om
   have j:=aV (f:=AF.C) d;have e:=E a[k].v b[k].v (hs _ (getElem_mem c))
   repeat' first|refine .s1 ?_|(refine .q ?_ ?_<;>intro O)|refine aH rfl e (aB _) ?_|fail
   all_goals first
    |(refine aP rfl (AC.eq ?_);rw[hp,FU c d];simp_all;done)
    |(refine⟨a.length-(k+1),om,[(5, .int .i64 ((k+1:Nat):Int)),(0, .slice (a.map AF.C) .no),(1, .slice (b.map AF.C) .no)],
     Z9,by simp[aM,AV.ab,dG],rfl,k+1,rfl,om,by rw[hp,FU c d];simp_all,rfl,rfl⟩;done)
  ·have i:decide ((k:Int)<(a.length:Int))=false:=by simp;omega
   refine .go ?_;refine aP rfl (AC.eq ?_);rw[hp,drop_eq_nil_of_le om,drop_eq_nil_of_le om,nH]
 ·have h:((a.length:Int) != (b.length:Int))=true:=by simp;omega
  refine .go ?_;exact aP rfl (AC.eq (by rw[H2 g]))
def SR{g:Gh}{w:World}{v:AH}{u:Value}(h:Aa g w v.C u):v.l.length<=9223372036854775807/\v.m.length<=9223372036854775807:=by obtain⟨vs,_,a,_⟩:=h;obtain⟨x,_,d⟩:=a.get (i:=3) (c := .slice v.lv .no) rfl;obtain⟨y,_,h3⟩:=a.get (i:=4) (c := .slice v.mv .no) rfl;have h4:=Jf d;have b:=Jf h3;rw[v.bb]at h4;rw[v.bn]at b;exact⟨h4,b⟩
def DY:∀(N:Nat) (a b:AH),a.size<=N->AN prog 124 [a.C,b.C] (.bool (o6 a b))
 |0,a,b,h=>absurd h (by have:=a.au;omega)
 |N+1,a,b,h=>FF ⟨_,func124,rfl,rfl⟩ Wz (λg w vs ⟨u,r,_,hu,_⟩=>SR hu) λ⟨t,y⟩=>by
  have E:=λa b h=>DY N a b h
  have c:=Ly N E a.m b.m om (λx hx=>by
   have d:=aN (size:=AF.size) hx
   have e:x.size=x.name.length+2+x.v.size:=rfl
   have:=a.ay
   omega)
  rw[<-AH.bh, <-AH.bh]at c
  refine AI.plain rfl Wz (aS [4] func124 ?_)
  have i:=Q4 a b
  repeat' first|refine NX rfl rfl rfl Zi ?_|refine .s1 ?_|(refine .q ?_ ?_<;>intro O)|fail
  all_goals try (refine aP rfl (AC.eq ?_);rw[i];first|(simp_all;done)|(rw[H1 (p:=a.l) (q:=b.l) (by simp at O;omega)];simp;done))
  have o:a.l.length=b.l.length:=by simp at O;omega
  change AB _ _ _ _ _ _ _
  refine AB.loop (λn s H=>∃k:Nat,n=a.l.length-k/\k<=a.l.length/\oF a.l b.l=oF (a.l.drop k) (b.l.drop k)/\
   H=⟨[.cells [.int .i64 a.kind, .int .i64 a.n, .str a.s, .slice a.lv .no, .slice a.mv .no], .cells [.int .i64 b.kind, .int .i64 b.n, .str b.s, .slice b.lv .no, .slice b.mv .no]],[]⟩/\
   s=[(5, .int .i64 k),(2, .ptr 0 0),(3, .ptr 1 0)])
   (s0:=[(5, .int .i64 (0:Nat)),(2, .ptr 0 0),(3, .ptr 1 0)])
   Z9 ⟨0,rfl,zero_le _,rfl,rfl,rfl⟩ ?_
  rintro n s H ⟨k,rfl,hk,hp,rfl,rfl⟩
  by_cases d:k<a.l.length
  ·have j:decide ((k:Int)<(a.l.length:Int))=true:=by simp[d]
   have x1:=lD d
   have e:k<b.l.length:=om
   have z:=lD e
   have f:=E a.l[k] b.l[k] (by have:=dK d;omega)
   repeat' first|refine NX rfl rfl rfl Zi ?_|refine .s1 ?_|(refine .q ?_ ?_<;>intro O)|refine aH rfl f (aB _) ?_|fail
   ·refine aP rfl (AC.eq ?_)
    rw[i,hp,FT d e];simp_all
   ·refine⟨a.l.length-(k+1),om,[(5, .int .i64 ((k+1:Nat):Int)),(2, .ptr 0 0),(3, .ptr 1 0)],
     Z9,Wj,by simp[aQ,aL,Ob.ab,aE,AV.ab,mG,mI],k+1,rfl,om,by rw[hp,FT d e];simp_all,rfl,rfl⟩
  ·have j:decide ((k:Int)<(a.l.length:Int))=false:=by simp;omega
   repeat' first|refine NX rfl rfl rfl Zi ?_|refine .s1 ?_|(refine .q ?_ ?_<;>intro O)|refine aH rfl c (aB _) ?_|fail
   refine aP rfl (AC.eq ?_)
   rw[i,hp,drop_eq_nil_of_le om,drop_eq_nil_of_le om]
   rw[show oF [] []=true by rw[oF]]
   simp_all
def aDH(a b:AH)(h:a.size<=9223372036854775807):AN prog 124 [a.C,b.C] (.bool (o6 a b)):=DY a.size a b (le_refl _)
def OT(a b:AH):AN prog 124 [a.C,b.C] (.bool (o6 a b)):=DY a.size a b (le_refl _)
structure Row where
 key:AG
 aw:AG
 aq:List AF
 broken:Bool
def Row.cells(r:Row):List AV:=[.str r.key, .str r.aw, .slice (r.aq.map AF.C) .no, .bool r.broken]
def Row.C(r:Row):AV := .agg r.cells
structure AY where
 name:AG
 ag:List Row
def AY.C(t:AY):AV := .agg [.str t.name, .slice (t.ag.map Row.C) .no]
structure Ae where
 table:AG
 key:AG
def Ae.C(n:Ae):AV := .agg [.str n.table, .str n.key]
structure Bt where
 row:Row
 is:Bool
 e:Int
def Bt.C(g:Bt):AV := .agg [.str g.row.key, .str g.row.aw, .slice (g.row.aq.map AF.C) .no, .bool g.row.broken, .bool g.is, .int .i64 g.e]
structure BF where
 name:AG
 table:AG
 col:AG
 aw:AG
 args:List AF
def BF.C(c:BF):AV := .agg [.str c.name, .str c.table, .str c.col, .str c.aw, .slice (c.args.map AF.C) .no]
def Tbls.C(l:List AY):AV := .slice (l.map AY.C) .no
theorem Row.K(r:Row):r.C.K=true:=by simp[Row.C,Row.cells,AV.K,aA,aR]
theorem mN(l:List Row):aA (l.map Row.C)=true:=bH Row.K l
theorem AY.K(t:AY):t.C.K=true:=by simp[AY.C,AV.K,aA,mN]
theorem Hb(l:List AY):aA (l.map AY.C)=true:=bH AY.K l
theorem Ae.K(n:Ae):n.C.K=true:=rfl
theorem Bt.K(g:Bt):g.C.K=true:=by simp[Bt.C,AV.K,aA,aR]
theorem BF.K(c:BF):c.C.K=true:=by simp[BF.C,AV.K,aA,aR]
theorem Tbls.K(l:List AY):(Tbls.C l).K=true:=by simp[Tbls.C,AV.K,Hb]
theorem gH(n m:Nat)(l:List Row):aE n m (l.map Row.C)=true:=aD n m _ (mN l)
theorem dY(n m:Nat)(l:List AY):aE n m (l.map AY.C)=true:=aD n m _ (Hb l)
theorem Row.fits(r:Row):Av.fits true 4 r.C=true:=rfl
theorem AY.fits(t:AY):Av.fits true 2 t.C=true:=rfl
def oJ(l:List Row):Av.eK true 4 (l.map Row.C)=true:=iJ Row.fits l
def nX(l:List AY):Av.eK true 2 (l.map AY.C)=true:=iJ AY.fits l
def z6(l:List AF):Av.eK true 6 (l.map AF.C)=true:=iJ AF.fits l
def Row.size(r:Row):Nat:=r.key.length+r.aw.length+aC AF.size r.aq+4
def AY.size(t:AY):Nat:=t.name.length+aC Row.size t.ag+2
def Row.ok(r:Row):Prop:=∀m∈r.aq,m.ok
def AY.ok(t:AY):Prop:=∀r∈t.ag,r.ok
def Nn(n:Nat):AQ prog n 4 false (λx:Bool => .bool x) (λ_=>1) (λ_=>True):=AQ.bool underlying4
def Qn:∀n:Nat,AQ prog n 90 true Row.C Row.size Row.ok
 |0=>AQ.zero
 |n+1=>(AQ.struct underlying90 Wc
   (AW.cons (c:=1) rfl Wc (bM λ_=>rfl) (dP n)
    (AW.cons (c:=1) rfl Wc (bM λ_=>rfl) (dP n)
     (AW.cons (c:=1) rfl Wc (bM λ_=>rfl) (tL n)
      (AW.cons (c:=1) rfl Wc (bM λ_=>rfl) (Nn n) AW.nil))))).map
   (λx=>(⟨x.1,x.2.1,x.2.2.1,x.2.2.2.1⟩:Row)) (λ_=>rfl) (λx=>by simp only[Row.size];omega) (λx h=>h.2.2.1)
def No:∀n:Nat,AQ prog n 108 false (λl => .slice (l.map Row.C) .no) (λl=>aC Row.size l+1) (λl=>∀x∈l,x.ok)
 |0=>AQ.zero
 |n+1=>AQ.slice underlying108 (c:=4) Wc Wd (Qn n)
def Qo:∀n:Nat,AQ prog n 110 true AY.C AY.size AY.ok
 |0=>AQ.zero
 |n+1=>(AQ.struct underlying110 Wc
   (AW.cons (c:=1) rfl Wc (bM λ_=>rfl) (dP n)
    (AW.cons (c:=1) rfl Wc (bM λ_=>rfl) (No n) AW.nil))).map
   (λx=>(⟨x.1,x.2.1⟩:AY)) (λ_=>rfl) (λx=>by simp only[AY.size];omega) (λx h=>h.2.1)
def Np:∀n:Nat,AQ prog n 30 false Tbls.C (λl=>aC AY.size l+1) (λl=>∀x∈l,x.ok)
 |0=>AQ.zero
 |n+1=>AQ.slice underlying30 (c:=2) Wc Wd (Qo n)
def Nq(l:List AF)(h:l.length<=1048576):AN prog 51 [.slice (l.map AF.C) .no] (.slice (l.map AF.C) .no):=by
 have a:(l.map AF.C).length=l.length:=List.length_map ..
 refine AI.plain Zu W6 (aS [2] func51 ?_);refine tC 0 rfl (λhn=> ?_) ?_
 ·repeat' first|refine .s1 ?_|(refine .q ?_ ?_<;>intro O)|refine Jd rfl rfl rfl ?_|fail
  exact aP rfl (AC.no (AA.eq hn.symm))
 ·repeat' first|refine .s1 ?_|(refine .q ?_ ?_<;>intro O)|refine FA rfl rfl rfl ?_|refine sZ (n:=0) rfl rfl rfl rfl rfl rfl rfl rfl rfl rfl (z6 l) Wg om rfl ?_|fail
  exact aP rfl (AC.no (AA.eq (List.nil_append _)))
def SS(r:Row)(h:r.aq.length<=1048576):AN prog 47 [r.C] r.C:=by
 refine AI.plain (Row.K r) (by simp[aA,Row.K]) (cE [.cell 2 90] func47 ?_);have O:=Nq r.aq h
 repeat' first|refine .s1 ?_|(refine .q ?_ ?_<;>intro O)|refine aH rfl O (aB _) ?_|fail
 exact aO
def ST(l:List Row)(f:FuncId)(c:AV)(p:Row->Bool)(g:l.length<=9223372036854775807)(b:c.K=true)(hf:∀x∈l,AN prog f [x.C,c] (.bool (p x))):
  AN prog 174 [.slice (l.map Row.C) .no, .fn (.func f) [] [c]] (.int .i64 (bG p l 0)):=by
 refine AI.plain rfl (by simp[AV.K,aA,mN,b]) (aS [4] func174 ?_);refine .go ?_;change AB _ _ _ _ _ _ _;refine AB.loop (λn s H=>∃k:Nat,n=l.length-k/\k<=l.length/\bG p l 0=bG p (l.drop k) k/\H=⟨[],[]⟩/\
  s=[(8, .int .i64 k),(7, .int .i64 l.length),(0, .slice (l.map Row.C) .no),(1, .fn (.func f) [] [c])])
  (s0:=[(8, .int .i64 (0:Nat)),(7, .int .i64 l.length),(0, .slice (l.map Row.C) .no),(1, .fn (.func f) [] [c])])
  Z9 ⟨0,rfl,zero_le _,rfl,rfl,rfl⟩ ?_
 rintro n s H ⟨k,rfl,hk,hp,rfl,rfl⟩;by_cases a:k<l.length
 ·have e:decide ((k:Int)<(l.length:Int))=true:=by simp[a]
  have x1:=aV (f:=Row.C) a;have d:=hf l[k] (getElem_mem a)
  repeat' first|refine .s1 ?_|(refine .q ?_ ?_<;>intro O)|refine Jc rfl rfl d (aB _) ?_|fail
  ·refine aP rfl (AC.eq ?_);rw[hp,cR a,if_pos O]
  ·refine⟨l.length-(k+1),om,[(8, .int .i64 ((k+1:Nat):Int)),(7, .int .i64 l.length),(0, .slice (l.map Row.C) .no),(1, .fn (.func f) [] [c])],
    Z9,by simp[aM,AV.ab,aE,gH,aF _ _ _ b],rfl,k+1,rfl,om,XB,rfl,rfl⟩
 ·have e:decide ((k:Int)<(l.length:Int))=false:=by simp;omega
  refine .go ?_;refine aP rfl (AC.eq ?_);rw[hp,drop_eq_nil_of_le om,bG]
def UZ(r:Row)(a:AG):AN prog 175 [r.C, .ac (.str a)] (.bool (r.key==a)):=by refine AI.plain rfl (by simp[aA,Row.K,AV.K]) (aS [3] func175 ?_);refine .go ?_;exact bY
def Lz{t1 t2:Nat}{s:AE}{a b r:AV}(d:lk? s t1=some a)(e:lk? s t2=some b)(hw:AC (.tup [a,b]) r):∃c,Av.ret (gG s [t1,t2]) = .ret c/\AC c r:=
 ⟨_,rfl,Wt⟩
def dZ(name key:AG):List AY->Nat->Int×Int
 |[],_=>(-1, -1)
 |t::l,k=>if t.name==name then ((k:Int),bG (λr:Row=>r.key==key) t.ag 0) else dZ name key l (k+1)
theorem wZ{a:AG}{l:List AY}(h:k<l.length):
  dZ name a (l.drop k) k=if l[k].name==name then ((k:Int),bG (λr:Row=>r.key==a) l[k].ag 0) else dZ name a (l.drop (k+1)) (k+1):=by rw[List.drop_eq_getElem_cons h,dZ]
def yR(l:List AY)(name a:AG)(e:l.length<=9223372036854775807)(hr:∀t∈l,t.ag.length<=9223372036854775807):
  AN prog 106 [Tbls.C l, .str name, .str a] (.tup [.int .i64 (dZ name a l 0).1, .int .i64 (dZ name a l 0).2]):=by
 refine AI.plain rfl Yk (aS [6,7] func106 ?_)
 repeat' first|refine cW rfl rfl ?_|refine .s1 ?_|(refine .q ?_ ?_<;>intro O)|fail
 change AB _ _ _ _ _ _ _;refine AB.loop (λn s H=>∃k:Nat,n=l.length-k/\k<=l.length/\dZ name a l 0=dZ name a (l.drop k) k/\H=⟨[],[]⟩/\
  s=[(14, .int .i64 k),(13, .int .i64 l.length),(12,Tbls.C l),(8, .int .i64 (-1)),(9, .int .i64 (-1)),(5, .ac (.str a)),(1, .str name)])
  (s0:=[(14, .int .i64 (0:Nat)),(13, .int .i64 l.length),(12,Tbls.C l),(8, .int .i64 (-1)),(9, .int .i64 (-1)),(5, .ac (.str a)),(1, .str name)])
  Z9 ⟨0,rfl,zero_le _,rfl,rfl,rfl⟩ ?_
 rintro n s H ⟨k,rfl,hk,hp,rfl,rfl⟩;by_cases b:k<l.length
 ·have d:decide ((k:Int)<(l.length:Int))=true:=by simp[b]
  have x1:=aV (f:=AY.C) b;have c:=ST l[k].ag 175 (.ac (.str a)) (λr=>r.key==a) (hr _ (getElem_mem b)) rfl (λx _=>UZ x a)
  repeat' first|refine .s1 ?_|(refine .q ?_ ?_<;>intro O)|refine tA rfl rfl ?_|refine aH rfl c (aB _) ?_|fail
  ·refine⟨l.length-(k+1),om,[(14, .int .i64 ((k+1:Nat):Int)),(13, .int .i64 l.length),(12,Tbls.C l),(8, .int .i64 (-1)),(9, .int .i64 (-1)),(5, .ac (.str a)),(1, .str name)],
    Z9,WL,rfl,k+1,rfl,om,by rw[hp,wZ b,if_neg Zq],rfl,rfl⟩
  ·refine Lz rfl rfl (AC.eq ?_);rw[hp,wZ b,if_pos Zq]
 ·have d:decide ((k:Int)<(l.length:Int))=false:=by simp;omega
  refine .go ?_;refine Lz rfl rfl (AC.eq ?_);rw[hp,drop_eq_nil_of_le om,dZ]
def w5(name a:AG):∀(l:List AY) (k:Nat),(dZ name a l k=(-1, -1)/\l.find? (λt=>t.name==name)=none)\/
  ∃(j:Nat) (h:j<l.length),dZ name a l k=(((k+j:Nat):Int),bG (λr:Row=>r.key==a) l[j].ag 0)/\l.find? (λt=>t.name==name)=some l[j]
 |[],k => .inl ⟨rfl,rfl⟩
 |x::l,k=>by
  by_cases e:(x.name==name)=true
  ·exact .inr ⟨0,Wb,by simp only[dZ,if_pos e];simp,by simp only[List.find?, e];rfl⟩
  ·have d:(x.name==name)=false:=by simpa using e
   rcases w5 name a l (k+1) with⟨b,c⟩|⟨j,h,b,c⟩
   ·exact .inl ⟨by simp only[dZ,if_neg e,b],by simp only[List.find?, d,c]⟩
   ·refine .inr ⟨j+1,Wu, ?_,by simp only[List.find?, d,c];rfl⟩
    simp only[dZ,if_neg e,b]
    simp
    omega
def qS:Row:=⟨[],[],[],false⟩
def qU:Bt:=⟨qS,false,0⟩
def EZ(r:Row):Bt:=if r.broken then ⟨qS,false,10⟩ else ⟨r,true,0⟩
def cP(l:List AY)(n:Ae):Bt:=
 match l.find? (λt=>t.name==n.table) with
 |none=>qU
 |some t=>match t.ag.find? (λr=>r.key==n.key) with
  |none=>qU
  |some r=>EZ r
def oK{r:Row}{b:Bool}{e:Int}{t:Tk}{cs:List AV}(h:cs=r.aq.map AF.C):AC (.agg [.str r.key, .str r.aw, .slice cs t, .bool r.broken, .bool b, .int .i64 e]) (Bt.C ⟨r,b,e⟩):=by subst h;exact AC.agg (AA.cons (aG _) (AA.cons (aG _) (AA.cons (AC.no (aB _)) (aB _))))
def aDI(l:List AY)(n:Ae)(d:l.length<=9223372036854775807)(hr:∀t∈l,t.ag.length<=9223372036854775807)(c:∀t∈l,∀r∈t.ag,r.aq.length<=1048576):
  AN prog 53 [Tbls.C l,n.C] (cP l n).C:=by
 refine AI.plain (Bt.K _) (by simp[aA,Tbls.K,Ae.K]) (cE [.cell 4 92] func53 ?_);have hp:=yR l n.table n.key d hr;rcases w5 n.table n.key l 0 with⟨b,a⟩|⟨i,X,b,a⟩
 ·rw[b]at hp
  repeat' first|refine .s1 ?_|(refine .q ?_ ?_<;>intro O)|refine aH rfl hp (aB _) ?_|fail
  refine aI rfl ?_;have e:cP l n=qU:=by rw[cP,a]
  rw[e];exact oK (r:=qS) rfl
 ·rw[b]at hp;simp only[zero_add]at hp;rcases eN (λr:Row=>r.key==n.key) l[i].ag 0 with⟨h3,h4⟩|⟨k,hk,h3,h4⟩
  ·rw[h3]at hp
   repeat' first|refine .s1 ?_|(refine .q ?_ ?_<;>intro O)|refine aH rfl hp (aB _) ?_|fail
   refine aI rfl ?_;have e:cP l n=qU:=by rw[cP,a];simp only[h4]
   rw[e];exact oK (r:=qS) rfl
  ·rw[h3]at hp;simp only[zero_add]at hp;have x1:=aV (f:=AY.C) X;have h:=aV (f:=Row.C) hk;have g:decide ((k:Int)<0)=false:=by simp
   have ht:=SS l[i].ag[k] (c _ (getElem_mem X) _ (getElem_mem hk))
   repeat' first|refine .s1 ?_|(refine .q ?_ ?_<;>intro O)|refine aH rfl hp (aB _) ?_|refine aH rfl ht (aB _) ?_|fail
   all_goals refine aI rfl ?_
   ·have e:cP l n=⟨qS,false,10⟩:=by rw[cP,a];simp only[h4,EZ];rw[if_pos O]
    rw[e];exact oK (r:=qS) rfl
   ·have e:cP l n=⟨l[i].ag[k],true,0⟩:=by rw[cP,a];simp only[h4,EZ];rw[if_neg WG]
    rw[e];exact oK rfl
def qV(t:AY):AV := .agg [.str t.name, .aa 1 4 t.ag.length 0 t.ag.length]
def fM(l:List AY)(i k:Nat):List AV:=
 match l[i]? with
 |some t=>((l.take k).map AY.C).set i (qV t)
 |none=>(l.take k).map AY.C
def qW(l:List AY)(i k:Nat):List Tok:=
 match l[i]? with
 |some t=>if i<k then [.aa (fM l i k), .aa (t.ag.map Row.C)] else [.aa (fM l i k)]
 |none=>[.aa (fM l i k)]
def LA(l:List AY)(i k:Nat)(h:k<=l.length):(fM l i k).length=k:=by unfold fM;split<;>simp<;>omega
theorem oL{a n:Nat}:∀(xs ys:List AV),aE a n (xs++ys)=(aE a n xs&&aE a n ys)
 |[],ys=>by simp[aE]
 |x::xs,ys=>by rw[List.cons_append,aE,aE,oL xs ys,Bool.and_assoc]
def jP{a n:Nat}(l:List AY)(i k:Nat)(h:i<k->1<n):aE a n (fM l i k)=true:=by
 have O:∀L:List AY,aE a n (L.map AY.C)=true:=λL=>dY a n L
 unfold fM;split
 ·rename_i t ht;by_cases e:i<k
  ·have f:∀(L:List AV) (j:Nat) (y:AV),aE a n L=true->y.ab a n=true->aE a n (L.set j y)=true:=by
    intro L;induction L with
    |nil=>intro j y c d;exact c
    |cons b L E=>
     intro j y c d;simp only[aE,and_eq_true]at c;cases j with
     |zero=>simp only[set_cons_zero,aE,and_eq_true];exact⟨d,c.2⟩
     |succ j=>simp only[set_cons_succ,aE,and_eq_true];exact⟨c.1,E j y c.2 d⟩
   refine f _ _ _ (O _) ?_;simp[qV,AV.ab,aE,h e]
  ·rw[List.set_eq_of_length_le Wl];exact O _
 grind
def J0(l:List AY)(i k:Nat)(hk:k<l.length):fM l i (k+1)=fM l i k++[if i=k then qV l[k] else l[k].C]:=by
 have b:(l.take (k+1)).map AY.C=(l.take k).map AY.C++[l[k].C]:=by rw[List.take_succ_eq_append_getElem hk,map_append];rfl
 have a:((l.take k).map AY.C).length=k:=Wl
 unfold fM;split
 ·rename_i t ht;rw[b];by_cases e:i=k
  ·subst e;have:t=l[i]:=by rw[getElem?_eq_getElem hk]at ht;exact(Option.some.inj ht).symm
   subst this;rw[List.set_append_right _ _ om,a,Nat.sub_self,if_pos rfl,List.set_eq_of_length_le (l:=(l.take i).map AY.C) om];rfl
  ·rw[if_neg e];by_cases h:i<k
   ·simp_all
   ·rw[List.set_append_right _ _ om,a,List.set_eq_of_length_le (l:=(l.take k).map AY.C) om,List.set_eq_of_length_le Wl]
 ·grind
theorem Hc{f:α->AV}{l:List α}{j:Nat}(h:j<l.length):(l.take j).map f++[f l[j]]=(l.take (j+1)).map f:=WX
theorem yB(l:List AY)(i k:Nat)(h:i<k)(a:i<l.length):qW l i k=[.aa (fM l i k), .aa (l[i].ag.map Row.C)]:=by unfold qW;rw[getElem?_eq_getElem a];simp only[if_pos h]
theorem sL(l:List AY)(i k:Nat)(h:¬i<k):qW l i k=[.aa (fM l i k)]:=by unfold qW;split<;>simp[h]
def LB(l:List AY)(i:Nat)(hl:l.length<=1048576)(hr:∀t∈l,t.ag.length<=1048576)(x:∀t∈l,∀r∈t.ag,r.aq.length<=1048576):
  AI prog 19 [Tbls.C l] ⟨[],[]⟩ (λe H=>e = .ret (.aa 0 2 l.length 0 l.length)/\H=⟨[],qW l i l.length⟩):=by
 refine aS [2] func19 ?_;refine .go ?_;change AB _ _ _ _ _ _ _;refine b8 3 rfl (kA (z:=2) rfl rfl rfl) ?_;refine FP (λn s H=>∃k:Nat,n=l.length-k/\k<=l.length/\H=⟨[],qW l i k⟩/\s=[(11, .int .i64 k),(10, .int .i64 l.length),(9,Tbls.C l),(3, .aa 0 2 k 0 k)])
  (s0:=[(11, .int .i64 (0:Nat)),(10, .int .i64 l.length),(9,Tbls.C l),(3, .aa 0 2 0 0 0)])
  Z9 ⟨0,rfl,zero_le _,(by rw[sL l i 0 om];unfold fM;split<;>rfl),rfl⟩ ?_
 rintro n s H ⟨k,rfl,hk,rfl,rfl⟩;by_cases w:k<l.length
 ·have d1:decide ((k:Int)<(l.length:Int))=true:=by simp[w]
  have x1:=aV (f:=AY.C) w;have a3:=hr _ (getElem_mem w);have hpl:=LA l i k hk;have h:=J0 l i k w;rcases Nat.lt_trichotomy i k with hik|hik|hik
  ·rw[yB l i k hik om];refine .go ?_;change AB _ _ _ _ _ _ _;refine fV 0 1 rfl rfl (kA (z:=4) rfl rfl rfl) rfl ?_;refine AB.loop (λn s H=>∃j:Nat,n=l[k].ag.length-j/\j<=l[k].ag.length/\H=⟨[.cells [.str l[k].name, .aa 2 4 j 0 j]],[.aa (fM l i k), .aa (l[i].ag.map Row.C)]++[.aa ((l[k].ag.take j).map Row.C)]⟩/\
    s=[(20, .int .i64 j),(19, .int .i64 l[k].ag.length),(18, .slice (l[k].ag.map Row.C) .no),(11, .int .i64 k),(10, .int .i64 l.length),(9,Tbls.C l),(3, .aa 0 2 k 0 k),(5, .ptr 0 0)])
    (s0:=[(20, .int .i64 (0:Nat)),(19, .int .i64 l[k].ag.length),(18, .slice (l[k].ag.map Row.C) .no),(11, .int .i64 k),(10, .int .i64 l.length),(9,Tbls.C l),(3, .aa 0 2 k 0 k),(5, .ptr 0 0)])
    Z9 ⟨0,rfl,zero_le _,rfl,rfl⟩ ?_
   rintro n s H ⟨j,rfl,hj,rfl,rfl⟩;have c:((l[k].ag.take j).map Row.C).length=j:=Wl
   by_cases d:j<l[k].ag.length
   ·have y:decide ((j:Int)<(l[k].ag.length:Int))=true:=by simp[d]
    have x2:=aV (f:=Row.C) d;have ht:=SS l[k].ag[j] (x _ (getElem_mem w) _ (getElem_mem d))
    repeat' first|refine .s1 ?_|(refine .q ?_ ?_<;>intro O)|refine aH rfl ht (aB _) ?_|refine eG (m:=j+1) rfl rfl rfl rfl rfl rfl rfl rfl c rfl rfl Wg om rfl ?_|fail
    refine⟨l[k].ag.length-(j+1),om,[(20, .int .i64 ((j+1:Nat):Int)),(19, .int .i64 l[k].ag.length),(18, .slice (l[k].ag.map Row.C) .no),(11, .int .i64 k),(10, .int .i64 l.length),(9,Tbls.C l),(3, .aa 0 2 k 0 k),(5, .ptr 0 0)],
     Z9,Yl, ?_,j+1,rfl,om, ?_,rfl⟩
    ·have b:=jP (a:=1) (n:=2+1) l i k om;have u:=gH 1 (2+1) (l[k].ag.take j);simp[-map_take,aQ,aL,Ob.ab,Tok.ab,aE,AV.ab,oL,b,u,dG,gH]
    ·rw[<-Hc d];rfl
   ·have y:decide ((j:Int)<(l[k].ag.length:Int))=false:=by simp;omega
    have o:j=l[k].ag.length:=om
    subst o;have v:=c;have g:(((l[k].ag.take l[k].ag.length).map Row.C).take l[k].ag.length).drop 0=l[k].ag.map Row.C:=Xf
    repeat' first|refine fV 0 1 rfl rfl ((cA rfl v rfl).trans (AK.a7 (AC.no (AA.eq g)))) rfl ?_|refine .s1 ?_|(refine .q ?_ ?_<;>intro O)|refine eG (m:=k+1) rfl rfl rfl rfl rfl rfl rfl rfl hpl rfl rfl Wg om rfl ?_|fail
    refine⟨l.length-(k+1),om,[(11, .int .i64 ((k+1:Nat):Int)),(10, .int .i64 l.length),(9,Tbls.C l),(3, .aa 0 2 (k+1) 0 (k+1))],0,2,zero_le _,Wb,
     Z9,WL,rfl, ?_,k+1,rfl,om, ?_,rfl⟩
    ·have b:=jP (a:=0) (n:=2) l i (k+1) om;rw[h,if_neg om]at b;have p:∀L:List Row,aE 0 2 (L.map Row.C)=true:=λL=>gH 0 2 L
     simp[-map_take,aL,Tok.ab,p];exact b
    ·rw[yB l i (k+1) om om,h,if_neg om];rfl
  ·rw[sL l i k om];refine .go ?_;change AB _ _ _ _ _ _ _;refine fV 0 1 rfl rfl (kA (z:=4) rfl rfl rfl) rfl ?_;refine AB.loop (λn s H=>∃j:Nat,n=l[k].ag.length-j/\j<=l[k].ag.length/\H=⟨[.cells [.str l[k].name, .aa 1 4 j 0 j]],[.aa (fM l i k)]++[.aa ((l[k].ag.take j).map Row.C)]⟩/\
    s=[(20, .int .i64 j),(19, .int .i64 l[k].ag.length),(18, .slice (l[k].ag.map Row.C) .no),(11, .int .i64 k),(10, .int .i64 l.length),(9,Tbls.C l),(3, .aa 0 2 k 0 k),(5, .ptr 0 0)])
    (s0:=[(20, .int .i64 (0:Nat)),(19, .int .i64 l[k].ag.length),(18, .slice (l[k].ag.map Row.C) .no),(11, .int .i64 k),(10, .int .i64 l.length),(9,Tbls.C l),(3, .aa 0 2 k 0 k),(5, .ptr 0 0)])
    Z9 ⟨0,rfl,zero_le _,rfl,rfl⟩ ?_
   rintro n s H ⟨j,rfl,hj,rfl,rfl⟩;have c:((l[k].ag.take j).map Row.C).length=j:=Wl
   by_cases d:j<l[k].ag.length
   ·have y:decide ((j:Int)<(l[k].ag.length:Int))=true:=by simp[d]
    have x2:=aV (f:=Row.C) d;have ht:=SS l[k].ag[j] (x _ (getElem_mem w) _ (getElem_mem d))
    repeat' first|refine .s1 ?_|(refine .q ?_ ?_<;>intro O)|refine aH rfl ht (aB _) ?_|refine eG (m:=j+1) rfl rfl rfl rfl rfl rfl rfl rfl c rfl rfl Wg om rfl ?_|fail
    refine⟨l[k].ag.length-(j+1),om,[(20, .int .i64 ((j+1:Nat):Int)),(19, .int .i64 l[k].ag.length),(18, .slice (l[k].ag.map Row.C) .no),(11, .int .i64 k),(10, .int .i64 l.length),(9,Tbls.C l),(3, .aa 0 2 k 0 k),(5, .ptr 0 0)],
     Z9,Yl, ?_,j+1,rfl,om, ?_,rfl⟩
    ·have b:=jP (a:=1) (n:=1+1) l i k om;have u:=gH 1 (1+1) (l[k].ag.take j);simp[-map_take,aQ,aL,Ob.ab,Tok.ab,aE,AV.ab,oL,b,u,dG,gH]
    ·rw[<-Hc d];rfl
   ·have y:decide ((j:Int)<(l[k].ag.length:Int))=false:=by simp;omega
    have o:j=l[k].ag.length:=om
    subst o;have v:=c;have g:(((l[k].ag.take l[k].ag.length).map Row.C).take l[k].ag.length).drop 0=l[k].ag.map Row.C:=Xf
    repeat' first|fail|refine .s1 ?_|(refine .q ?_ ?_<;>intro O)|refine eG (m:=k+1) rfl rfl rfl rfl rfl rfl rfl rfl hpl rfl rfl Wg om rfl ?_|fail
    refine⟨l.length-(k+1),om,[(11, .int .i64 ((k+1:Nat):Int)),(10, .int .i64 l.length),(9,Tbls.C l),(3, .aa 0 2 (k+1) 0 (k+1))],0,2,zero_le _,Wb,
     Z9,WL,rfl, ?_,k+1,rfl,om, ?_,rfl⟩
    ·have b:=jP (a:=0) (n:=2) l i (k+1) om;rw[h,if_pos hik]at b;have p:∀L:List Row,aE 0 2 (L.map Row.C)=true:=λL=>gH 0 2 L
     simp[-map_take,aL,Tok.ab,p];exact b
    ·rw[yB l i (k+1) om om,h,if_pos hik];subst hik;rw[List.take_length];rfl
  ·rw[sL l i k om];refine .go ?_;change AB _ _ _ _ _ _ _;refine fV 0 1 rfl rfl (kA (z:=4) rfl rfl rfl) rfl ?_;refine AB.loop (λn s H=>∃j:Nat,n=l[k].ag.length-j/\j<=l[k].ag.length/\H=⟨[.cells [.str l[k].name, .aa 1 4 j 0 j]],[.aa (fM l i k)]++[.aa ((l[k].ag.take j).map Row.C)]⟩/\
    s=[(20, .int .i64 j),(19, .int .i64 l[k].ag.length),(18, .slice (l[k].ag.map Row.C) .no),(11, .int .i64 k),(10, .int .i64 l.length),(9,Tbls.C l),(3, .aa 0 2 k 0 k),(5, .ptr 0 0)])
    (s0:=[(20, .int .i64 (0:Nat)),(19, .int .i64 l[k].ag.length),(18, .slice (l[k].ag.map Row.C) .no),(11, .int .i64 k),(10, .int .i64 l.length),(9,Tbls.C l),(3, .aa 0 2 k 0 k),(5, .ptr 0 0)])
    Z9 ⟨0,rfl,zero_le _,rfl,rfl⟩ ?_
   rintro n s H ⟨j,rfl,hj,rfl,rfl⟩;have c:((l[k].ag.take j).map Row.C).length=j:=Wl
   by_cases d:j<l[k].ag.length
   ·have y:decide ((j:Int)<(l[k].ag.length:Int))=true:=by simp[d]
    have x2:=aV (f:=Row.C) d;have ht:=SS l[k].ag[j] (x _ (getElem_mem w) _ (getElem_mem d))
    repeat' first|refine .s1 ?_|(refine .q ?_ ?_<;>intro O)|refine aH rfl ht (aB _) ?_|refine eG (m:=j+1) rfl rfl rfl rfl rfl rfl rfl rfl c rfl rfl Wg om rfl ?_|fail
    refine⟨l[k].ag.length-(j+1),om,[(20, .int .i64 ((j+1:Nat):Int)),(19, .int .i64 l[k].ag.length),(18, .slice (l[k].ag.map Row.C) .no),(11, .int .i64 k),(10, .int .i64 l.length),(9,Tbls.C l),(3, .aa 0 2 k 0 k),(5, .ptr 0 0)],
     Z9,Yl, ?_,j+1,rfl,om, ?_,rfl⟩
    ·have b:=jP (a:=1) (n:=1+1) l i k om;have u:=gH 1 (1+1) (l[k].ag.take j);simp[-map_take,aQ,aL,Ob.ab,Tok.ab,aE,AV.ab,oL,b,u,dG,gH]
    ·rw[<-Hc d];rfl
   ·have y:decide ((j:Int)<(l[k].ag.length:Int))=false:=by simp;omega
    have o:j=l[k].ag.length:=om
    subst o;have v:=c;have g:(((l[k].ag.take l[k].ag.length).map Row.C).take l[k].ag.length).drop 0=l[k].ag.map Row.C:=Xf
    repeat' first|refine fV 0 1 rfl rfl ((cA rfl v rfl).trans (AK.a7 (AC.no (AA.eq g)))) rfl ?_|refine .s1 ?_|(refine .q ?_ ?_<;>intro O)|refine eG (m:=k+1) rfl rfl rfl rfl rfl rfl rfl rfl hpl rfl rfl Wg om rfl ?_|fail
    refine⟨l.length-(k+1),om,[(11, .int .i64 ((k+1:Nat):Int)),(10, .int .i64 l.length),(9,Tbls.C l),(3, .aa 0 2 (k+1) 0 (k+1))],0,1,zero_le _,Wb,
     Z9,WL,rfl, ?_,k+1,rfl,om, ?_,rfl⟩
    ·have b:=jP (a:=0) (n:=1) l i (k+1) om;rw[h,if_neg om]at b;have p:∀L:List Row,aE 0 1 (L.map Row.C)=true:=λL=>gH 0 1 L
     simp[-map_take,aL,Tok.ab,p];exact b
    ·rw[sL l i (k+1) om,h,if_neg om];rfl
 ·have d1:decide ((k:Int)<(l.length:Int))=false:=by simp;omega
  have a0:k=l.length:=om
  subst a0;refine .go ?_;exact⟨rfl,rfl⟩
theorem uK(l:List AY):qW l l.length l.length=[.aa (l.map AY.C)]:=by rw[sL l _ _ om];unfold fM;simp
theorem Dn(l:List AY)(i:Nat)(h:i<l.length):qW l i l.length=[.aa ((l.map AY.C).set i (qV l[i])), .aa (l[i].ag.map Row.C)]:=by rw[yB l _ _ h h];unfold fM;rw[getElem?_eq_getElem h];simp
def OU(l:List AY)(b:l.length<=1048576)(hr:∀t∈l,t.ag.length<=1048576)(a:∀t∈l,∀r∈t.ag,r.aq.length<=1048576):AN prog 19 [Tbls.C l] (Tbls.C l):=by refine jF (Tbls.K l) Ym (AI.mono (LB l l.length b hr a) ?_);rintro e H ⟨rfl,rfl⟩;rw[uK];refine⟨_,_,rfl,(cA rfl Wb rfl).trans (AK.a7 (AC.no (AA.eq ?_)))⟩;rw[drop_zero,take_of_length_le Wb]
def qJ{α:Type}(p:α->Bool):List α->Option Nat
 |[]=>none
 |x::l=>if p x then some 0 else (qJ p l).map (· +1)
def mO{α:Type}(p:α->Bool):∀(l:List α) (k:Nat),(bG p l k = -1/\qJ p l=none)\/∃(j:Nat) (h:j<l.length),bG p l k=((k+j:Nat):Int)/\qJ p l=some j/\p l[j]=true
 |[],k => .inl ⟨rfl,rfl⟩
 |x::l,k=>by
  by_cases e:p x=true
  ·exact .inr ⟨0,Wb,by simp[bG,e],by simp[qJ,e],Yi⟩
  ·rcases mO p l (k+1) with⟨a,b⟩|⟨j,h,a,b,h3⟩
   ·exact .inl ⟨by simp[bG,e,a],by simp[qJ,e,b]⟩
   ·exact .inr ⟨j+1,Wu,by simp[bG,e,a];omega,by simp[qJ,e,b],by simpa using h3⟩
def z7(name a:AG):∀(l:List AY) (k:Nat),(dZ name a l k=(-1, -1)/\qJ (λt:AY=>t.name==name) l=none)\/
  ∃(j:Nat) (h:j<l.length),dZ name a l k=(((k+j:Nat):Int),bG (λr:Row=>r.key==a) l[j].ag 0)/\qJ (λt:AY=>t.name==name) l=some j
 |[],k => .inl ⟨rfl,rfl⟩
 |x::l,k=>by
  by_cases e:(x.name==name)=true
  ·exact .inr ⟨0,Wb,by simp only[dZ,if_pos e];simp,by simp[qJ,e]⟩
  ·rcases z7 name a l (k+1) with⟨b,c⟩|⟨j,h,b,c⟩
   ·exact .inl ⟨by simp only[dZ,if_neg e,b],by simp[qJ,e,c]⟩
   ·refine .inr ⟨j+1,Wu, ?_,by simp[qJ,e,c]⟩;simp only[dZ,if_neg e,b];grind
def yS{α:Type}(l:List α)(i:Nat)(f:α->α):List α:=
 match l[i]? with
 |some x=>l.set i (f x)
 |none=>l
def sM{l:List α}{i:Nat}(h:i<l.length)(f:α->α):yS l i f=l.set i (f l[i]):=by unfold yS;rw[getElem?_eq_getElem h]
def iX(rows:List Row)(r:Row):List Row:=
 match qJ (λx:Row=>x.key==r.key) rows with
 |none=>rows++[r]
 |some k=>rows.set k r
def jA(rows:List Row)(key:AG):List Row:=
 match qJ (λx:Row=>x.key==key) rows with
 |none=>rows
 |some k=>rows.take k++rows.drop (k+1)
def sN(l:List AY)(name:AG)(r:Row):List AY:=
 match qJ (λt:AY=>t.name==name) l with
 |none=>l++[⟨name,[r]⟩]
 |some i=>yS l i λt=>⟨t.name,iX t.ag r⟩
def w8(l:List AY)(name key:AG):List AY:=
 match qJ (λt:AY=>t.name==name) l with
 |none=>l
 |some i=>yS l i λt=>⟨t.name,jA t.ag key⟩
def OV{xs:List AV}{t:Tk}:AA [.agg [.str name, .slice xs t]] [.agg [.str name, .slice xs .no]]:=AA.cons (AC.agg (AA.cons (aG _) (AA.cons (AC.no (aB _)) (aB _)))) (aB _)
theorem put(l:List AY)(name:AG)(r:Row)(y:l.length<=1048576)(hr:∀t∈l,t.ag.length<=1048576)(o:∀t∈l,∀r∈t.ag,r.aq.length<=1048576)(w:r.aq.length<=1048576):
  AN prog 252 [Tbls.C l, .str name,r.C] (Tbls.C (sN l name r)):=by
 refine jF (Tbls.K _) Zj (aS [6] func252 ?_);have hp:=yR l name r.key om (λt ht=>by have:=hr t ht;omega);have j:=SS r w;have d:aA [Tbls.C l]=true:=Ym
 rcases z7 name r.key l 0 with⟨u,v⟩|⟨i,X,u,v⟩
 ·rw[u]at hp;have hn:=LB l l.length y hr o;rw[uK]at hn;have g:(l.map AY.C).length=l.length:=by simp
  have b:aL 0 1 [.aa (l.map AY.C)]=true:=by simp[aL,Tok.ab,dY]
  repeat' first|refine cW rfl rfl ?_|refine .s1 ?_|(refine .q ?_ ?_<;>intro O)|refine jR rfl rfl hn d (aB _) rfl b ?_|refine aH rfl hp (aB _) ?_|refine aH rfl j (aB _) ?_|refine eG (m:=l.length+1) rfl rfl rfl rfl rfl rfl rfl rfl g rfl rfl Wg om rfl ?_|fail
  refine⟨_,_,rfl,(cA rfl Wb rfl).trans (AK.a7 (AC.no ?_))⟩;have e:sN l name r=l++[⟨name,[r]⟩]:=by unfold sN;rw[v]
  rw[e,drop_zero,take_of_length_le Wb,map_append];exact QT (aB _) OV
 ·rw[u]at hp;simp only[zero_add]at hp;have hn:=LB l i y hr o;rw[Dn l i X]at hn;have g:((l.map AY.C).set i (qV l[i])).length=l.length:=by simp
  have b:aL 0 2 [.aa ((l.map AY.C).set i (qV l[i])), .aa (l[i].ag.map Row.C)]=true:=by
   have h3:=jP (a:=0) (n:=2) l i l.length om;have h4:fM l i l.length=(l.map AY.C).set i (qV l[i]):=by unfold fM;rw[getElem?_eq_getElem X];simp
   rw[h4]at h3;simp[aL,Tok.ab,gH,h3]
  have hx:((l.map AY.C).set i (qV l[i]))[i]? =some (qV l[i]):=by simp[X]
  have z:i<l.length-0:=X;have p:(l[i].ag.map Row.C).length=l[i].ag.length:=Wb
  have a1:=hr _ (getElem_mem X);have d0:decide ((i:Int)<0)=false:=Wb
  have e:sN l name r=l.set i ⟨l[i].name,iX l[i].ag r⟩:=by unfold sN;rw[v];exact sM X _
  rcases mO (λx:Row=>x.key==r.key) l[i].ag 0 with⟨h3,h4⟩|⟨k,hk,h3,h4,h5⟩
  ·rw[h3]at hp;repeat' first|refine cW rfl rfl ?_|refine .s1 ?_|(refine .q ?_ ?_<;>intro O)|refine jR rfl rfl hn d (aB _) rfl b ?_|refine aH rfl hp (aB _) ?_|refine aH rfl j (aB _) ?_|refine fI rfl rfl rfl rfl rfl rfl rfl Wh (zero_add _) ?_|refine j4 rfl rfl rfl rfl rfl rfl ?_|refine fD rfl rfl rfl Wh Wh rfl ?_|refine jE rfl rfl rfl rfl ?_|refine eG (m:=l[i].ag.length+1) rfl rfl rfl rfl rfl rfl rfl rfl p rfl rfl Wg om rfl ?_|refine bC (agg:=true) rfl rfl rfl rfl rfl g hx rfl rfl rfl rfl ?_|fail
   have h:iX l[i].ag r=l[i].ag++[r]:=by unfold iX;rw[h4]
   refine⟨_,_,rfl,(cV (k:=0) (i:=i) (c:=1) rfl Zr rfl (cA rfl Wb rfl) rfl rfl).trans ((cA rfl Wb rfl).trans (AK.a7 (AC.no (AA.eq ?_))))⟩;rw[e,h,drop_zero,take_of_length_le Wb,set_set,set_set,map_set];congr 1;simp only[AY.C,set_cons_succ,set_cons_zero,drop_zero,map_append,List.map_cons,List.map_nil];rw[take_of_length_le Wb];rfl
  ·rw[h3]at hp;simp only[zero_add]at hp;have a0:k<l[i].ag.length-0:=hk;have x2:=aV (f:=Row.C) hk;have d1:decide ((k:Int)<0)=false:=by simp
   have h:iX l[i].ag r=l[i].ag.set k r:=by unfold iX;rw[h4]
   repeat' first|refine cW rfl rfl ?_|refine .s1 ?_|(refine .q ?_ ?_<;>intro O)|refine jR rfl rfl hn d (aB _) rfl b ?_|refine aH rfl hp (aB _) ?_|refine aH rfl j (aB _) ?_|refine fI rfl rfl rfl rfl rfl rfl rfl Wh (zero_add _) ?_|refine j4 rfl rfl rfl rfl rfl rfl ?_|refine fD rfl rfl rfl Wh Wh rfl ?_|refine jE rfl rfl rfl rfl ?_|refine bC (agg:=true) rfl rfl rfl rfl rfl p x2 rfl rfl rfl rfl ?_|fail
   refine⟨_,_,rfl,(cV (k:=0) (i:=i) (c:=1) rfl hx rfl (cA rfl Wb rfl) rfl rfl).trans ((cA rfl Wb rfl).trans (AK.a7 (AC.no (AA.eq ?_))))⟩;rw[e,h,drop_zero,take_of_length_le Wb,set_set,map_set];congr 1;simp only[AY.C,set_cons_succ,set_cons_zero,drop_zero,map_set];rw[take_of_length_le Wb];rfl
def U0:AV := .agg [.str [], .str [], .slice [] .nil, .bool false]
def Hd(xs:List AV)(i:Nat):List AV:=(xs.take i++xs.drop (i+1)++xs.drop (xs.length-1)).take (xs.length-1)++[U0]++(xs.take i++xs.drop (i+1)++xs.drop (xs.length-1)).drop xs.length
def Ns(xs:List AV)(i:Nat)(h:i<xs.length):(Hd xs i).take (xs.length-1)=xs.take i++xs.drop (i+1):=by grind[Hd]
theorem xA:∀(xs ys:List AV),aA (xs++ys)=(aA xs&&aA ys)
 |[],ys=>by simp[aA]
 |x::xs,ys=>by rw[List.cons_append,aA,aA,xA xs ys,Bool.and_assoc]
theorem E0:∀(xs:List AV),aA xs=true↔∀x∈xs,x.K=true
 |[]=>by simp[aA]
 |x::xs=>by simp[aA,E0 xs]
def J1(xs:List AV)(i:Nat)(h:aA xs=true):aA (Hd xs i)=true:=by
 rw[E0]at h ⊢;intro x hx;unfold Hd at hx;simp only[List.mem_append,List.mem_singleton]at hx;rcases hx with (hx|rfl)|hx
 ·grind
 ·rfl
 ·grind
def aBC(xs:List AV)(n i:Nat)(hn:xs.length=n)(X:i<n)(hb:n<=1048576):
  AI prog 253 [.aa 0 4 n 0 n, .int .i64 i, .int .i64 ((i+1:Nat):Int)] ⟨[],[.aa xs]⟩ (λe H=>e = .ret (.aa 0 4 n 0 (n-1))/\H=⟨[],[.aa (Hd xs i)]⟩):=by
 refine aS [6] func253 ?_;have c:((i:Int)==((i+1:Nat):Int))=false:=Wl
 have b:i+(n-(i+1))=n-1:=om
 repeat' first|refine .seq ?_|refine .rg ?_|refine .rd ?_|refine .block ?_|refine .scope ?_|refine .skip ?_|refine .label ?_|refine .exit ?_|refine .ret ?_|refine .ct ?_|refine .cf ?_|refine .cy ?_|refine .cn ?_|(refine .cond rfl ?_ ?_<;>intro O)|refine cT ?_|refine .nl ?_|refine .dd ?_|refine .ys ?_|refine .no ?_|(refine fH rfl ?_ ?_<;>intro O)|refine .lb ?_|refine .ln ?_|refine .ls ?_|refine .pv ?_|refine .ix ?_|refine .pt ?_|refine .pf ?_|refine .bx ?_|refine .al ?_|refine .st ?_|refine .ad ?_|refine .sb ?_|refine .mf ?_|refine .cl ?_|refine .cw ?_|refine .ck ?_|refine QV i (i+1) n rfl rfl rfl rfl rfl rfl rfl rfl rfl rfl om om om ?_|refine jE rfl rfl rfl rfl ?_|refine FO 0 i (rl:=0) (rh:=i) rfl rfl rfl rfl rfl rfl rfl rfl rfl (zero_le _) om rfl (zero_add _) ?_|refine FO (i+1) n (rl:=i+1) (rh:=n) rfl rfl rfl rfl rfl rfl rfl rfl rfl om om (zero_add _) (zero_add _) ?_|refine QW (i:=i) (j:=i+1) (m:=n-1) rfl rfl rfl rfl rfl rfl rfl rfl hn om om b rfl ?_|refine FO (n-1) n (rl:=n-1) (rh:=n) rfl rfl rfl rfl rfl rfl rfl rfl rfl om om (zero_add _) (zero_add _) ?_|refine QX rfl rfl rfl rfl rfl rfl rfl Wl rfl ?_|fail
 refine⟨rfl, ?_⟩;subst hn;have a:xs.length-(xs.length-1)=1:=om
 dsimp only;rw[a];rfl
theorem cut(l:List AY)(name b:AG)(hl:l.length<=1048576)(hr:∀t∈l,t.ag.length<=1048576)(h:∀t∈l,∀r∈t.ag,r.aq.length<=1048576):
  AN prog 188 [Tbls.C l, .str name, .str b] (Tbls.C (w8 l name b)):=by
 refine jF (Tbls.K _) Yk (aS [6] func188 ?_);have hp:=yR l name b om (λt ht=>by have:=hr t ht;omega);have f:aA [Tbls.C l]=true:=Ym
 rcases z7 name b l 0 with⟨u,v⟩|⟨i,X,u,v⟩
 ·rw[u]at hp;have hn:=LB l l.length hl hr h;rw[uK]at hn;have d:aL 0 1 [.aa (l.map AY.C)]=true:=by simp[aL,Tok.ab,dY]
  have e:w8 l name b=l:=by unfold w8;rw[v]
  rw[e];repeat' first|refine .s1 ?_|(refine .q ?_ ?_<;>intro O)|refine jR rfl rfl hn f (aB _) rfl d ?_|refine aH rfl hp (aB _) ?_|fail
  refine⟨_,_,rfl,(cA rfl Wb rfl).trans (AK.a7 (AC.no (AA.eq ?_)))⟩;rw[drop_zero,take_of_length_le Wb]
 ·rw[u]at hp;simp only[zero_add]at hp;have hn:=LB l i hl hr h;rw[Dn l i X]at hn;have y:((l.map AY.C).set i (qV l[i])).length=l.length:=by simp
  have d:aL 0 2 [.aa ((l.map AY.C).set i (qV l[i])), .aa (l[i].ag.map Row.C)]=true:=by
   have h3:=jP (a:=0) (n:=2) l i l.length om;have h4:fM l i l.length=(l.map AY.C).set i (qV l[i]):=by unfold fM;rw[getElem?_eq_getElem X];simp
   rw[h4]at h3;simp[aL,Tok.ab,gH,h3]
  have hx:((l.map AY.C).set i (qV l[i]))[i]? =some (qV l[i]):=by simp[X]
  have m:(l[i].ag.map Row.C).length=l[i].ag.length:=Wb
  have z:=hr _ (getElem_mem X);have e:w8 l name b=l.set i ⟨l[i].name,jA l[i].ag b⟩:=by unfold w8;rw[v];exact sM X _
  rcases mO (λx:Row=>x.key==b) l[i].ag 0 with⟨h3,h4⟩|⟨k,hk,h3,h4,h5⟩
  ·rw[h3]at hp;have g:jA l[i].ag b=l[i].ag:=by unfold jA;rw[h4]
   repeat' first|refine .s1 ?_|(refine .q ?_ ?_<;>intro O)|refine jR rfl rfl hn f (aB _) rfl d ?_|refine aH rfl hp (aB _) ?_|refine fI rfl rfl rfl rfl rfl rfl rfl Wh (zero_add _) ?_|refine j4 rfl rfl rfl rfl rfl rfl ?_|refine fD rfl rfl rfl Wh Wh rfl ?_|refine jE rfl rfl rfl rfl ?_|fail
   refine⟨_,_,rfl,(cV (k:=0) (i:=i) (c:=1) rfl hx rfl (cA rfl Wb rfl) rfl rfl).trans ((cA rfl Wb rfl).trans (AK.a7 (AC.no (AA.eq ?_))))⟩;rw[e,g,drop_zero,take_of_length_le Wb,set_set,map_set];congr 1;simp only[AY.C,set_cons_succ,set_cons_zero,drop_zero];rw[take_of_length_le Wb]
  ·rw[h3]at hp;simp only[zero_add]at hp;have g:jA l[i].ag b=l[i].ag.take k++l[i].ag.drop (k+1):=by unfold jA;rw[h4]
   have d1:decide ((0:Int)<=(k:Int))=true:=Wb
   have j:=aBC (l[i].ag.map Row.C) l[i].ag.length k m hk z;have p:aA (l[i].ag.map Row.C)=true:=mN _;have a0:=J1 (l[i].ag.map Row.C) k p;have w:(Hd (l[i].ag.map Row.C) k).length=l[i].ag.length:=by unfold Hd;simp;omega
   repeat' first|refine .s1 ?_|(refine .q ?_ ?_<;>intro O)|refine jR rfl rfl hn f (aB _) rfl d ?_|refine aH rfl hp (aB _) ?_|refine fI rfl rfl rfl rfl rfl rfl rfl Wh (zero_add _) ?_|refine j4 rfl rfl rfl rfl rfl rfl ?_|refine fD rfl rfl rfl Wh Wh rfl ?_|refine jE rfl rfl rfl rfl ?_|refine Jj 1 rfl j rfl rfl p a0 rfl (aB _) rfl rfl ?_|refine bC (agg:=true) rfl rfl rfl rfl rfl y hx rfl rfl rfl rfl ?_|fail
   have o:=Ns (l[i].ag.map Row.C) k (by simpa using hk);rw[m]at o;refine⟨_,_,rfl,(cV (k:=0) (i:=i) (c:=1) rfl Zr rfl (cA rfl w rfl) rfl rfl).trans ((cA rfl Wb rfl).trans (AK.a7 (AC.no (AA.eq ?_))))⟩;rw[e,g,drop_zero,take_of_length_le Wb,set_set,set_set,map_set];congr 1;simp only[AY.C,set_cons_succ,set_cons_zero,drop_zero,o,map_append,map_take,List.map_drop]
end Go.Proofs.YtimbiifcnhgcoaaGreatDoor
