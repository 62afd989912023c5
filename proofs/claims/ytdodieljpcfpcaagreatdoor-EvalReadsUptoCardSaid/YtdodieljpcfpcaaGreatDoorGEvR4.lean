/- Joined texts. -/
import Derived.Lib.ItoaNum
import Derived.Lib.AppendIntMem
import Derived.Lib.ValidLaws
import Derived.Test.YtdodieljpcfpcaaGreatDoorGEvR2
import Derived.Test.YtdodieljpcfpcaaGreatDoorShelfF
set_option maxRecDepth 100000
set_option maxHeartbeats 16000000
set_option linter.all false
open List (drop_eq_nil_of_le drop_zero getElem?_eq_getElem getElem_mem map_append map_set map_take mem_cons set_cons_succ set_cons_zero set_set take_of_length_le)
open Nat (le_refl zero_add zero_le)
open Bool (and_eq_true)
open Go Go.Av Go.Proofs.YtdodieljpcfpcaaGreatDoor Go.Proofs.Tryz
variable{α:Type}{name x:AF}{m:Int}{U l:List AF}{xs:List AV}{k t2:Nat}{t1:Tk}
namespace Go.Proofs.YtdodieljpcfpcaaGreatDoor
open Go Go.Av Go.Proofs.Tryz
attribute [local irreducible] AB AD AN AQ Av.AS AZ
def P6{l:Int}(h0:0<=l)(h4:l<=4):m.fdiv (2 ^ min (l+1).toNat IntKind.i64.bits)=m/2 ^ (l.toNat+1):=by
 have e:min (l+1).toNat IntKind.i64.bits=l.toNat+1:=by show min (l+1).toNat 64=_;omega
 rw[e,Int.fdiv_eq_ediv_of_nonneg _ (Int.le_of_lt (Int.pow_pos Wc))]
theorem JL{c:Int}(h:0<=m)(O:0<c):(m/c==0)=decide (m<c):=by
 rw[Bool.eq_iff_iff,beq_iff_eq,decide_eq_true_eq];constructor
 ·intro e;have h1:=Int.emod_lt_of_pos m O;have h2:=Int.mul_ediv_add_emod m c;rw[e]at h2;omega
 ·exact Int.ediv_eq_zero_of_lt h
def MZ(t:Ae)(hs:t.name.length<=9223372036854775806):AN prog 116 [t.C] (.bool (cC t)):=by
 have hn:=U3 t.name hs;refine pEn 2 func116 ?_;by_cases h1:0<=t.ak
 ·have e1:decide (0<=t.ak)=true:=decide_eq_true h1;by_cases h2:t.ak<=4
  ·have a:decide (t.ak<=4)=true:=decide_eq_true h2;by_cases h3:0<=t.ay
   ·have b:decide (0<=t.ay)=true:=decide_eq_true h3
    repeat' first|refine .br ?_|refine .s1 ?_|(refine .q ?_ ?_<;>intro O)|refine J9 rfl rfl om (P6 h1 h2) ?_|fail
    all_goals
     refine Fin.rb ?_;unfold cC;rw[e1,a,b]
     try rw[JL h3 (Int.pow_pos Wc)]
     simp_all
   ·have b:decide (0<=t.ay)=false:=decide_eq_false h3
    repeat' first|refine .br ?_|refine .s1 ?_|(refine .q ?_ ?_<;>intro O)|fail
    all_goals
     refine Fin.rb ?_;unfold cC;rw[b];simp_all
  ·have a:decide (t.ak<=4)=false:=decide_eq_false h2
   repeat' first|refine .br ?_|refine .s1 ?_|(refine .q ?_ ?_<;>intro O)|fail
   all_goals
    refine Fin.rb ?_;unfold cC;rw[a];simp_all
 ·have e1:decide (0<=t.ak)=false:=decide_eq_false h1
  repeat' first|refine .br ?_|refine .s1 ?_|(refine .q ?_ ?_<;>intro O)|fail
  all_goals
   refine Fin.rb ?_;unfold cC;rw[e1];simp_all
def aCm(m:Nat):m &&& 1=m % 2:=Nat.and_two_pow_sub_one_eq_mod m 1
def aDu(t:Ae)(h0:0<=t.ay)(h1:t.ay<9223372036854775808):AN prog 117 [t.C, .int .i64 0] (.bool (decide (t.ay % 2=1))):=by
 refine pEn 4 func117 ?_;have e:t.ay.fdiv (2 ^ min (0:Int).toNat IntKind.i64.bits)=t.ay:=by rw[show (2:Int) ^ min (0:Int).toNat IntKind.i64.bits=1 from rfl,Int.fdiv_eq_ediv_of_nonneg _ Wc,Int.ediv_one]
 repeat' first|refine .br ?_|refine .s1 ?_|(refine .q ?_ ?_<;>intro O)|refine J9 rfl rfl Wc e ?_|refine DT (m:=t.ay.toNat) (n:=1) rfl rfl om rfl om Wc (aCm _) ?_|fail
 refine Fin.rb ?_;rw[Bool.eq_iff_iff,beq_iff_eq,decide_eq_true_eq];omega
def Sv{l:Int}(h:l<=4):(2:Int) ^ (l.toNat+1)<=32:=by
 have a:l.toNat<=4:=om
 generalize l.toNat=n at a
 match n,a with
 |0,_=>decide
 |1,_=>decide
 |2,_=>decide
 |3,_=>decide
 |4,_=>decide
def GN{t:Ae}(h:cC t=true):t.ay<32:=by obtain⟨_,_,h3,_,a⟩:=fW.1 h;have:=Sv h3;omega
def wIs(t:Ae)(hs:t.name.length<=9223372036854775806):AN prog 60 [t.C] (.bool (isT t)):=by
 have hr:=MZ t hs;refine pEn 2 func60 ?_;cases c:cC t with
 |true=>rw[c]at hr;have hb:=aDu t (fW.1 c).2.2.2.1 (by have:=GN c;omega);refine .ac ?_;refine Fin.rb ?_;unfold isT;rw[c];rfl
 |false=>rw[c]at hr;refine .ac ?_;refine Fin.rb ?_;unfold isT;rw[c];rfl
def OD:m.fdiv (2 ^ min (1:Int).toNat IntKind.i64.bits)=m/2:=by rw[show (2:Int) ^ min (1:Int).toNat IntKind.i64.bits=2 from rfl,Int.fdiv_eq_ediv_of_nonneg _ Wc]
def Sw(t:Ae)(hs:t.name.length<=9223372036854775806):AN prog 118 [t.C] (.tup [(fZ t).1.C, .bool (fZ t).2]):=by
 have hr:=MZ t hs;refine pER [.cell 2 59, .tmp 3] func118 ?_;unfold fZ;cases c:cC t with
 |true=>
  rw[c]at hr;obtain⟨_,b,d,e,f⟩:=fW.1 c;by_cases h0:t.ak=0
  ·have a:=beT h0;rw[if_neg (λh=>h.2 h0)];refine .ac ?_;exact aO
  ·have a:=beF h0;rw[if_pos ⟨rfl,h0⟩]
   repeat' first|refine .br ?_|refine .s1 ?_|(refine .q ?_ ?_<;>intro O)|refine J9 rfl rfl Wc OD ?_|fail
   exact aO
 |false=>rw[c]at hr;rw[if_neg (λh=>by cases h.1)];refine .ac ?_;exact aO
def aDv(h0:0<=m)(h:m<32):IntKind.i64.wrap (((BitVec.ofInt IntKind.i64.bits m) &&& ~~~(BitVec.ofInt IntKind.i64.bits 1)).toNat:Int)=if m % 2=1 then m-1 else m:=by
 have:∀m:Fin 32,IntKind.i64.wrap (((BitVec.ofInt IntKind.i64.bits (m.val:Int)) &&& ~~~(BitVec.ofInt IntKind.i64.bits 1)).toNat:Int)=if (m.val:Int) % 2=1 then (m.val:Int)-1 else (m.val:Int):=WQ
 have e:=this ⟨m.toNat,om⟩;simp only[Int.toNat_of_nonneg h0]at e;exact e
theorem Ag.au(d:Ag):1<=d.size:=WA
theorem AO.au(d:AO):1<=d.size:=XZ
theorem Ah.au(d:Ah):1<=d.size:=X4
theorem AM.au(d:AM):1<=d.size:=Xq
theorem AI.len(s:AI):s.ah.length<=s.size:=by have:=aJ Ag.au s.ah;unfold AI.size;omega
def lP{s:AI}{d:Ag}(h:d∈s.ah):d.size<=s.size:=by have:=aN (size:=Ag.size) h;unfold AI.size;omega
def Ag.lens(d:Ag):d.params.length<=d.size/\d.aw.length<=d.size/\d.faces.length<=d.size/\d.fields.length<=d.size/\d.name.length<=d.size:=by have h1:=aJ AO.au d.params;have h2:=aJ Ah.au d.fields;have h3:=aJ (size:=λx:AF=>x.length+1) (λ_=>om) d.aw;have h4:=aJ (size:=λx:AF=>x.length+1) (λ_=>om) d.faces;unfold Ag.size dA;omega
theorem Ag.b2{d:Ag}{p:AO}(h:p∈d.params):p.size<=d.size:=by have:=aN (size:=AO.size) h;unfold Ag.size;omega
def AO.lens(p:AO):p.name.length<=p.size/\p.t.name.length<=p.size/\p.d.size<=p.size:=by unfold AO.size Ae.size;omega
def UJ(n:AF):AN prog 174 [.str n] (.bool (kN n)):=by
 refine pEn 2 func174 ?_
 repeat' first|refine .s1 ?_|(refine .q ?_ ?_<;>intro O)|fail
 all_goals
  refine Fin.rb ?_;unfold kN C8 cW iB sID;simp_all
def Dh{k:Int}{n:AF}{t2 a b:Tk}:AC (.agg [.int .i64 k, .str n, .slice [] t1, .slice [] t2, .slice [] a, .slice [] b]) (Ag.C ⟨k,n,[],[],[],[]⟩):=
 AC.agg (AA.cons (aG _) (AA.cons (aG _) (AA.cons (AC.no (aD _)) (AA.cons (AC.no (aD _)) (AA.cons (AC.no (aD _)) (AA.cons (AC.no (aD _)) (aD _)))))))
def yA{p:α->Bool}{l:List α}(h:k<l.length):(l.drop k).find? p=if p l[k]=true then some l[k] else (l.drop (k+1)).find? p:=by rw[List.drop_eq_getElem_cons h,List.find?_cons];cases p l[k]<;>rfl
def Lp(s:AI)(name:AF)(hs:s.size<=68719476736):AN prog 108 [s.C, .str name] (.tup [(bN s name).1.C, .bool (bN s name).2]):=by
 have a:=UJ name;have hl:=s.len;refine pER [.cell 4 53, .tmp 5] func108 ?_;cases c:kN name with
 |true=>rw[c]at a;refine .ac ?_;refine aI rfl ?_;rw[bN,dQ,if_pos c];exact AC.tup (AA.cons Dh (aD _))
 |false=>
  rw[c]at a;refine .ac ?_;refine bK (hj:=Zp) s.ah.length (λk=>[(15, .int .i64 k),(14, .int .i64 s.ah.length),(13, .slice (s.ah.map Ag.C) .no),(1, .str name),(4, .ptr 0 0)]) (λ_=>⟨[.cells [.int .i64 0, .str [], .slice [] .nil, .slice [] .nil, .slice [] .nil, .slice [] .nil]],[]⟩) (λk=>dQ s name=(s.ah.drop k).find? (λd=>d.name==name)) Z0 λk hk hp=> ?_
  by_cases h1:k<s.ah.length
  ·have e:=ltT h1;have x1:=aU (f:=Ag.C) h1;have b:=yA (p:=λd:Ag=>d.name==name) h1
   repeat' first|refine .lb ?_|refine .s1 ?_|(refine .q ?_ ?_<;>intro O)|fail
   ·refine aI rfl (AC.eq ?_);rw[bN,hp,b,if_pos O];rfl
   ·exact⟨h1,Z0,Wg,rfl,rfl,X1⟩
  ·have e:=ltF h1;refine .go ?_;refine aI rfl ?_;rw[bN,hp,drop_eq_nil_of_le om];exact AC.tup (AA.cons Dh (aD _))
def GO(s:AI)(name:AF):(bN s name).1∈s.ah\/(bN s name).1=⟨0,name,[],[],[],[]⟩\/(bN s name).1=uY:=by
 unfold bN dQ;split
 ·rename_i d a;split at a
  ·cases a;exact .inr (.inl rfl)
  ·exact .inl (List.mem_of_find?_eq_some a)
 ·exact .inr (.inr rfl)
def iC{s:AI}(h:s.size<=68719476736):(bN s name).1.params.length<=68719476736/\(bN s name).1.aw.length<=68719476736/\(bN s name).1.faces.length<=68719476736/\(bN s name).1.fields.length<=68719476736/\∀p∈(bN s name).1.params,p.size<=68719476736:=by
 rcases GO s name with h1|h1|h1
 ·have h2:=lP h1;have h3:=Ag.lens (bN s name).1;exact⟨om,om,om,om,λp hp=>by have:=Ag.b2 hp;omega⟩
 ·rw[h1];exact⟨Wa,Wa,Wa,Wa,Wa⟩
 ·rw[h1];exact⟨by simp[uY],by simp[uY],by simp[uY],by simp[uY],by simp[uY]⟩
def Sx(s:AI)(name:AF)(a:List Int)(hs:s.size<=68719476736)(hk:a.length<=68719476736):AN prog 110 [s.C, .str name, .slice (a.map (AV.int .i64)) .no] (.bool (fJ s name a)):=by
 have hf:=Lp s name hs;have O:=JD a (bN s name).1.kind om;refine pEn 6 func110 (ha:=by simp[AV.K,aB,AI.K,qP]) ?_;unfold fJ
 repeat' first|refine .br ?_|refine .s1 ?_|(refine .q ?_ ?_<;>intro O)|fail
 all_goals
  refine Fin.rb ?_;simp_all
def Sy(s:AI)(name:AF)(hs:s.size<=68719476736):AN prog 77 [s.C, .str name] (.bool (eC s name)):=by have hk:=Sx s name [0,4] hs Wc;refine pEn 4 func77 ?_;refine .ac ?_;exact bW
def zS(s:AI)(name:AF)(hs:s.size<=68719476736):AN prog 78 [s.C, .str name] (.bool (fQ s name)):=by have hk:=Sx s name [1,2,3] hs Wc;refine pEn 4 func78 ?_;refine .ac ?_;exact bW
def zT{t2:Tk}:AC (.agg [.str [], .str [], .int .i64 0, .int .i64 0, .bool false, .int .i64 0, .int .i64 0, .str [], .slice [] t1, .slice [] t2]) In.C:=by unfold AO.C In;rw[show (bO).lv=[] by rw[bO,sC],show (bO).mv=[] by rw[bO,wQ]];exact AC.agg (AA.cons (aG _) (AA.cons (aG _) (AA.cons (aG _) (AA.cons (aG _) (AA.cons (aG _) (AA.cons (aG _) (AA.cons (aG _) (AA.cons (aG _) (AA.cons (AC.no (aD _)) (AA.cons (AC.no (aD _)) (aD _)))))))))))
def UK(p:AO)(name:AF):AN prog 193 [p.C, .ab (.str name)] (.bool (p.name==name)):=by refine pEn 3 func193 ?_;refine .ac ?_;exact bW
def Sz(l:List AO)(name:AF)(hl:l.length<=9223372036854775807):AN prog 127 [.slice (l.map AO.C) .no, .str name] (.tup [(p7 l name).1.C, .bool (p7 l name).2]):=by
 have h:=MQ l 193 [.ab (.str name)] (λp=>p.name==name) hl rfl (λx _=>UK x name);refine pER [.cell 4 148, .tmp 5] func127 ?_;rcases eV (λp:AO=>p.name==name) l 0 with⟨h1,h2⟩|⟨j,hj,h1,h2⟩
 ·rw[h1]at h;refine .ac ?_;refine aI rfl ?_;rw[p7,sD,h2];exact AC.tup (AA.cons zT (aD _))
 ·rw[h1]at h;have a:decide (((0+j:Nat):Int)<0)=false:=decide_eq_false om;have x1:(l.map AO.C)[0+j]? =some l[j].C:=by rw[zero_add];exact aU (f:=AO.C) hj
  refine .ac ?_;refine aI rfl (AC.eq ?_);rw[p7,sD,h2];rfl
end Go.Proofs.YtdodieljpcfpcaaGreatDoor
namespace Go.Av
open Go
section
variable [AK]
variable {P:Program} {A:Array Oper} {G:Bool} {K:AX->AE->St->Prop} {C:List Oper} {I:List Ak} {s:AE} {H:St} {d:Option Tmp} {R:TypeId} {D:String} {S:Array Edge}
def yB{f:FuncId}{args:Array Operand}{p:Array TypeId}{ys cls cls': List AV}{z n c:Nat}{T': List Tok}(j:Nat)(ha:j7 s args.toList some=some (.slice xs (.own j z)::cls))
  (hp:AQ P f (.slice xs (.own 0 z)::cls') ⟨[],[.len n]⟩ (λe g=>e = .ret (.slice ys (.own 0 z))/\g=⟨[],[.len c]⟩)) (hj:H.T[j]? =some (.len n)) (Y:aB xs=true) (hy:aB ys=true) (O:aB cls'= true) (hw:AA cls cls')
  (hT': j5 j (.len c) H.T some=some T') (k:AD P A G K C (.all::I) (iJ d (.slice ys (.own j z)) s) ⟨H.B,T'⟩):AD P A G K (⟨d, .call ⟨.value (.func f),args,p⟩,R,D,S,none⟩::C) I s H:=by
 have b:j<H.T.length:=(List.getElem?_eq_some_iff.1 hj).1;have l:emb H.T.length [j] 0=j:=rfl;refine lX (nB:=H.B.length) (nT:=H.T.length) (B0:=[]) (T0:=[.len n]) (B1:=[]) (T1:=[.len c]) (v0 := .slice ys (.own 0 z)) [] [j] ha hp rfl rfl ⟨List.nodup_nil,Wa⟩ ⟨Wa,YC⟩ rfl rfl (λk i ob h=>Wm) (λk i t h ht=> ?_) rfl rfl
  ?_ ?_ ?_ (B':= H.B) (T':= T') ?_ ?_ k
 ·cases k with
  |zero=>simp at h ht;subst h;subst ht;exact hj
  |succ k=>simp at h
 ·simp only[aE,AV.aa,aC _ _ _ Y,aC _ _ _ O];rfl
 ·rw[aW,AV.ae,aS _ _ _ Y,aS _ _ _ O];exact AA.cons (aG _) hw
 ·rw[AV.ae,aS _ _ _ hy];rfl
 ·rw[pI];simp
 ·obtain⟨_,a⟩:=d6 _ _ _ _ _ hT';rw[<-Option.some.inj a];simp[fA,upd,Tok.ae]
end
end Go.Av
namespace Go.Proofs.YtdodieljpcfpcaaGreatDoor
open Go Go.Av Go.Proofs.Tryz
attribute [local irreducible] AB AD AN AQ Av.AS AZ
def GP(I:List AF)(x:AF):(cH I x).length<=I.length+1:=by unfold cH;split<;>simp
def JM(n:AF):Bool:=n.take 2==[95,95]
def OE(l:List AF):Bool:=decide l.Nodup
def Lq(l:List AF):Bool := !l.any JM
def sI(l:List AF):Bool:=OE l&&Lq l
def m8(s:AI):List AF:=s.ah.map Ag.name
def wX(s:AI):Bool:=fJ s s.query [1]&&(s.ar==[]||(s.ar != s.query&&fJ s s.ar [1]))
def iS(l:List AF)(d:Ag)(name:AF):List AF:=if d.kind=1/\name∈d.faces then cH l d.name else l
def kB(s:AI)(l:List AF)(p:AF):List AF:=if fJ s p [1]=true then cH l p else l
def jK(s:AI)(name:AF):List AF:=
 match dQ s name with
 |none=>[]
 |some d=>if d.kind=1 then [name] else if d.kind=2 then s.ah.foldl (λl x=>iS l x name) [] else if d.kind=3 then d.aw.foldl (kB s) [] else []
def OF(m n:Int):Int:=IntKind.i64.wrap (((BitVec.ofInt IntKind.i64.bits m) &&& ~~~(BitVec.ofInt IntKind.i64.bits n)).toNat:Int)
def aAi(a b:Ae):Bool:=cC a&&(cC b&&(a.name==b.name&&(a.ak==b.ak&&OF b.ay a.ay==0)))
def M0(l:List Ah)(name:AF):Option Ah:=l.find? (λf=>f.name==name)
def uE(next:AF->List AF):Nat->Nat->List AF->List AF
 |0,_,l=>l
 |n+1,i,l=>match l[i]? with
  |none=>l
  |some x=>uE next n (i+1) ((next x).foldl cH l)
def qV(s:AI):List AF:=s.ah.flatMap λd=>d.params.map λp=>p.t.name
def sIf:AF:=[105,102]
def oE:AF:=[115,107,105,112]
def fU:AF:=[105,110,99,108,117,100,101]
def Hz(A:List AG)(d:AM):Bool:=
 let v:=(bR sIf d.args).1
 let w:=if v.kind=8 then (bR v.s A).1 else v
 w.kind==1&&w.n==1
def gV(name:AF)(l:List AM):Option AM:=l.find? λd=>d.name==name
def iV(A:List AG)(l:List AM):Bool:=
 !(match gV oE l with|some d=>Hz A d|none=>false)&&(match gV fU l with|some d=>Hz A d|none=>true)
def k9(s:AI)(u on:AF):Bool:=on==[]||(on==u||decide (u∈jK s on))
def jL(x:Sl):AF:=if x.kind≠0 then [] else if x.bn≠[] then x.bn else x.name
def iT(d:AR)(name:AF):Option Af:=d.ai.find? λf=>f.name==name
structure Gs where
 met:List AF
 out:List AW
def kP(x:Sl):List AW->List AW
 |[]=>[⟨jL x,[x]⟩]
 |g::l=>if g.key=jL x then ⟨g.key,g.O++[x]⟩::l else g::kP x l
def fV(s:AI)(d:AR)(A:List AG)(u:AF):Nat->List Sl->Gs->Gs
 |_,[],g=>g
 |n, .mk k a nm ar di on se::l,g=>
  let x:=Sl.mk k a nm ar di on se
  fV s d A u n l (
   if iV A di=false then g
   else if k=0 then ⟨g.met,kP x g.out⟩
   else if k=1 then
    (if nm∈g.met then g else match iT d nm with
     |none=>⟨g.met++[nm],g.out⟩
     |some f=>if k9 s u f.on=true then (match n with
       |0=>⟨g.met++[nm],g.out⟩
       |n+1=>fV s d A u n f.O ⟨g.met++[nm],g.out⟩) else ⟨g.met++[nm],g.out⟩)
   else if k=2 then (if k9 s u on=true then fV s d A u n se g else g)
   else g)
termination_by n l=>(n,fS l)
decreasing_by
 all_goals simp_wf
 all_goals simp only[fS,Sl.size]
 all_goals first|exact Prod.Lex.left _ _ (Nat.lt_succ_self _)|(apply Prod.Lex.right;omega)
def jS(s:AI)(d:AR)(A:List AG)(u:AF)(n:Nat)(x:Sl)(g:Gs):Gs:=
 if iV A x.ao=false then g
 else if x.kind=0 then ⟨g.met,kP x g.out⟩
 else if x.kind=1 then
  (if x.name∈g.met then g else match iT d x.name with
   |none=>⟨g.met++[x.name],g.out⟩
   |some f=>if k9 s u f.on=true then (match n with
     |0=>⟨g.met++[x.name],g.out⟩
     |n+1=>fV s d A u n f.O ⟨g.met++[x.name],g.out⟩) else ⟨g.met++[x.name],g.out⟩)
 else if x.kind=2 then (if k9 s u x.on=true then fV s d A u n x.O g else g)
 else g
theorem fP(s:AI)(d:AR)(A:List AG)(u:AF)(n:Nat)(g:Gs):fV s d A u n [] g=g:=by rw[fV]
theorem gG(s:AI)(d:AR)(A:List AG)(u:AF)(n:Nat)(x:Sl)(l:List Sl)(g:Gs):fV s d A u n (x::l) g=fV s d A u n l (jS s d A u n x g):=by cases x;rw[fV];rfl
def bG(s:AI)(d:AR)(A:List AG)(u:AF)(l:List Sl):List AW:=(fV s d A u d.ai.length l ⟨[],[]⟩).out
def bM(l:List Sl):List Sl:=l.flatMap Sl.O
def aAj{w:World}{im:Nat->Nat->Prop}(a:Aq im w):Lib.TabIs prog w "internal/strconv.uint64pow10" .u64 Lib.pow10Tab:=by
 have h0:=Aq.a1 (g:=⟨[],[],im⟩) a (p:=(2, .agg (Lib.pow10Tab.map (AV.int .u64)))) (.tail _ (.tail _ (.head _)));have hn:=(a.2 (2,20) (.head _)).2;have O:=λi z hz=>xQ h0 i z hz
 unfold Lib.TabIs World.var?;rw[show prog.globalNamed "internal/strconv.uint64pow10" =some 2 by kernel_rfl,Option.bind_some];have b:=O 0 1 Wc;unfold World.cell? at b hn O;dsimp only at b hn O;split at b
 case h_2=>cases b
 case h_1 cs e fz hh=>
  rw[hh]at hn O;simp only[Option.isSome_none,Bool.false_eq_true,if_false]at hn O;rw[hh];refine congrArg some (Array.ext_getElem? λi=> ?_);simp only[List.getElem?_toArray,List.getElem?_map,Array.getElem?_toList];by_cases X:i<20
  ·have hl:i<Lib.pow10Tab.length:=by rw[Lib.pow10Tab_length];exact X
   rw[O i Lib.pow10Tab[i] (getElem?_eq_getElem hl),getElem?_eq_getElem hl];rfl
  ·rw[List.getElem?_eq_none (by rw[Lib.pow10Tab_length];omega),Array.getElem?_eq_none (by have:=Array.getElem?_eq_none_iff.1 hn;omega)];rfl
def Iy(n:Int)(h0 : -9223372036854775808<=n)(h1:n<=9223372036854775807):AN prog 183 [.int .i64 n, .int .i64 10] (.str (Lib.itoa n)):=by
 refine y5 ⟨_,func183,rfl,rfl⟩ rfl (λim w J i c hl=> ?_);obtain⟨v,C,e,hv,j,a,h,g,hr⟩:=hl;have f:v = .int .i64 n:=hv;have b:j = .int .i64 10:=g;have d:a=[]:=hr;subst f;subst h;subst b;subst d;obtain rfl:J = #[.int .i64 n, .int .i64 10]:=by cases J;simp_all
 refine(qK n h0 h1 w (aAj c)).mono ?_;rintro e w' ⟨rfl,k,os,rfl⟩;exact⟨⟨_,rfl,rfl⟩,Lib.below_grow _ w (le_refl _) k os⟩
def GQ(u k:Nat)(h:u<10 ^ (k+1)):Lib.nDigits u<=k+1:=by
 induction k generalizing u with
 |zero=>rw[Lib.nDigits_small Wp];exact le_refl _
 |succ k E=>
  by_cases c:u<10
  ·rw[Lib.nDigits_small c];omega
  ·rw[Lib.nDigits_big c];have:=E (u/10) (by rw[Nat.pow_succ]at h;omega);omega
def SA(n:Int)(h0 : -9223372036854775808<=n)(h1:n<=9223372036854775807):(Lib.itoa n).length<=21:=by
 unfold Lib.itoa;split
 ·rw[List.length_cons,Lib.decDigits_length];have:=GQ n.natAbs 19 om;omega
 ·rw[Lib.decDigits_length];have:=GQ n.toNat 19 om;omega
def OG(name:AF)(v:AH):AH×Int:=
 if name=C8 then (if v.kind=2 then (if v.n < -2147483648\/2147483647<v.n then (bO,8) else (v,0)) else (bO,7))
 else if name=iB then (if v.kind=1 then (v,0) else (bO,7))
 else if name=sID/\v.kind=2 then (jJ (Lib.itoa v.n),0)
 else if name=sID\/name=cW then (if v.kind=4 then (v,0) else (bO,7))
 else (bO,7)
def E3(s:AI)(name:AF)(v:AH):AH×Int:=
 if g7 fT v=false\/eC s name=false then (bO,1)
 else if (bN s name).1.kind=4 then (if v.kind=4/\v.s∈(bN s name).1.aw then (v,0) else (bO,7))
 else OG name v
def aCn(s:AI)(name:AF)(v:AH)(hs:s.size<=68719476736)(hv:rH v)(h0 : -9223372036854775808<=v.n)(h1:v.n<=9223372036854775807):
  AN prog 120 [s.C, .str name,v.C] (.tup [(E3 s name v).1.C, .int .i64 (E3 s name v).2]):=by
 have x:=R2 v hv;have hl:=Sy s name hs;have hf:=Lp s name hs;have i:=iC (name:=name) hs;have X:=Iy v.n h0 h1;have ht:=Hv (Lib.itoa v.n);refine pER [.cell 6 43, .tmp 7] func120 ?_;unfold E3;cases u:g7 fT v with
 |false=>rw[u]at x;rw[if_pos (.inl rfl)];refine .ac ?_;exact aI rfl (AC.tup (AA.cons cE (aD _)))
 |true=>
  rw[u]at x;cases w:eC s name with
  |false=>rw[w]at hl;rw[if_pos (.inr rfl)];refine .ac ?_;exact aI rfl (AC.tup (AA.cons cE (aD _)))
  |true=>
   rw[w]at hl;rw[if_neg Wa];generalize bN s name=fr at hf i;obtain⟨d,ok⟩:=fr;simp only at hf i ⊢;have O:=gS d.aw v.s om;by_cases k:d.kind=4
   ·have e4:=beT k;rw[if_pos k];by_cases a:v.kind=4
    ·have j:=beT a;have c:(!(v.kind==4))=false:=by simp[a]
     by_cases l:v.s∈d.aw
     ·rw[decide_eq_true l]at O;rw[if_pos ⟨a,l⟩];refine .ac ?_;exact aO
     ·rw[decide_eq_false l]at O;rw[if_neg (λh=>l h.2)];refine .ac ?_;exact aI rfl (AC.tup (AA.cons cE (aD _)))
    ·have j:=beF a;have c:(!(v.kind==4))=true:=by simp[a]
     rw[if_neg (λh=>a h.1)];refine .ac ?_;exact aI rfl (AC.tup (AA.cons cE (aD _)))
   ·have e4:=beF k;rw[if_neg k];unfold OG;by_cases m:name=C8
    ·have z:(name==[73,110,116])=true:=by rw[m];rfl
     rw[if_pos m];by_cases b:v.kind=2
     ·have t:=beT b;have f:(!(v.kind==2))=false:=by simp[b]
      rw[if_pos b];by_cases hr:v.n < -2147483648\/2147483647<v.n
      ·rw[if_pos hr];rcases hr with hr|hr
       ·have y:decide (v.n < -2147483648)=true:=decide_eq_true hr;refine .ac ?_;exact aI rfl (AC.tup (AA.cons cE (aD _)))
       ·have y:decide (v.n < -2147483648)=false:=decide_eq_false om;have r2:decide (2147483647<v.n)=true:=decide_eq_true hr;refine .ac ?_;exact aI rfl (AC.tup (AA.cons cE (aD _)))
      ·have y:decide (v.n < -2147483648)=false:=decide_eq_false om;have r2:decide (2147483647<v.n)=false:=decide_eq_false om;rw[if_neg hr];refine .ac ?_;exact aO
     ·have t:=beF b;have f:(!(v.kind==2))=true:=by simp[b]
      rw[if_neg b];refine .ac ?_;exact aI rfl (AC.tup (AA.cons cE (aD _)))
    ·have z:(name==[73,110,116])=false:=by simpa [C8]using m
     rw[if_neg m];by_cases o:name=iB
     ·have b2:(name==[66,111,111,108,101,97,110])=true:=by rw[o];rfl
      rw[if_pos o];by_cases g:v.kind=1
      ·have q1:=beT g;have r:(!(v.kind==1))=false:=by simp[g]
       rw[if_pos g];refine .ac ?_;exact aO
      ·have q1:=beF g;have r:(!(v.kind==1))=true:=by simp[g]
       rw[if_neg g];refine .ac ?_;exact aI rfl (AC.tup (AA.cons cE (aD _)))
     ·have b2:(name==[66,111,111,108,101,97,110])=false:=by simpa [iB]using o
      rw[if_neg o];by_cases e:name=sID
      ·have b3:(name==[73,68])=true:=by rw[e];rfl
       have q:(name != [73,68])=false:=by rw[e];rfl
       by_cases b:v.kind=2
       ·have t:=beT b;have f:(!(v.kind==2))=false:=by simp[b]
        rw[if_pos ⟨e,b⟩];refine .ac ?_;exact aO
       ·have t:=beF b;have f:(!(v.kind==2))=true:=by simp[b]
        rw[if_neg (λh=>b h.2),if_pos (.inl e)];by_cases a:v.kind=4
        ·have j:=beT a;have c:(!(v.kind==4))=false:=by simp[a]
         rw[if_pos a];refine .ac ?_;exact aO
        ·have j:=beF a;have c:(!(v.kind==4))=true:=by simp[a]
         rw[if_neg a];refine .ac ?_;exact aI rfl (AC.tup (AA.cons cE (aD _)))
      ·have b3:(name==[73,68])=false:=by simpa [sID]using e
       have q:(name != [73,68])=true:=by simpa [sID]using e
       rw[if_neg (λh=>e h.1)];by_cases p:name=cW
       ·have b4:(name != [83,116,114,105,110,103])=false:=by rw[p];rfl
        rw[if_pos (.inr p)];by_cases a:v.kind=4
        ·have j:=beT a;have c:(!(v.kind==4))=false:=by simp[a]
         rw[if_pos a];refine .ac ?_;exact aO
        ·have j:=beF a;have c:(!(v.kind==4))=true:=by simp[a]
         rw[if_neg a];refine .ac ?_;exact aI rfl (AC.tup (AA.cons cE (aD _)))
       ·have b4:(name != [83,116,114,105,110,103])=true:=by simpa [cW]using p
        rw[if_neg (λh=>h.elim e p)];refine .ac ?_;exact aI rfl (AC.tup (AA.cons cE (aD _)))
def HA(U l:List AF):Nat:=U.countP λu => !decide (u∈l)
theorem GR{l:List AF}{x y:AF}:y∈cH l x↔y∈l\/y=x:=by grind[cH]
def M1(l:List AF)(x:AF):∃r,cH l x=l++r:=by
 unfold cH;split
 ·simp_all
 ·simp_all
def M4(xs l:List AF):∃r,xs.foldl cH l=l++r:=by
 induction xs generalizing l with
 |nil=>exact⟨[],Wa⟩
 |cons x xs E=>obtain⟨a,h1⟩:=M1 l x;obtain⟨b,h2⟩:=E (cH l x);simp_all
def UL{x:AF}(Y:x∈U)(hn:x∉l):HA U (l++[x])+1<=HA U l:=by
 unfold HA;induction U with
 |nil=>simp at Y
 |cons u U E=>
  have a:∀V:List AF,V.countP (λu => !decide (u∈l++[x]))<=V.countP (λu => !decide (u∈l)):=λV=>by apply List.countP_mono_left;simp_all
  grind
def M5{x:AF}(Y:x∈U):HA U (cH l x)+(cH l x).length<=HA U l+l.length:=by
 unfold cH;split
 ·omega
 ·rename_i h;have:=UL Y h;grind
def GS{xs l:List AF}(h:∀x∈xs,x∈U):HA U (xs.foldl cH l)+(xs.foldl cH l).length<=HA U l+l.length:=by
 induction xs generalizing l with
 |nil=>exact le_refl _
 |cons x xs E=>exact Nat.le_trans (E λy hy=>h y (List.mem_cons_of_mem _ hy)) (M5 (h x (List.mem_cons_self ..)))
def aAk(U l:List AF):HA U l<=U.length:=List.countP_le_length ..
def JN{s:AI}{p:AO}(h:p∈(bN s name).1.params):(bN s name).1∈s.ah:=by
 rcases GO s name with h1|h1|h1
 ·exact h1
 ·simp_all
 ·rw[h1]at h;simp[uY]at h
def M6{s:AI}{p:AO}(h:p∈(bN s name).1.params):p.t.name∈qV s:=
 List.mem_flatMap.2 ⟨_,JN h,List.mem_map.2 ⟨p,h,rfl⟩⟩
def JO(s:AI)(p:AO):Bool:=decide (p.t.ak=0)&&(decide (p.t.ay=1)&&fJ s p.t.name [5])
def iD(s:AI)(name:AF):List AF:=if (bN s name).1.kind=5 then ((bN s name).1.params.filter (JO s)).map λp=>p.t.name else []
def Iz(s:AI)(name:AF):Bool:=decide (name∈uE (iD s) ((iD s name).length+(qV s).length) 0 (iD s name))
def OH(s:AI):Bool := !s.ah.any λd=>Iz s d.name
def M7{s:AI}(x:AF):∀y∈iD s x,y∈qV s:=λy hy=>by
 unfold iD at hy;split at hy
 ·obtain⟨p,hp,rfl⟩:=List.mem_map.1 hy;exact M6 (List.mem_filter.1 hp).1
 simp_all
def M8{l:List Ag}{d:Ag}(hn:(l.map Ag.name).Nodup)(a:d∈l):l.find? (λx=>x.name==d.name)=some d:=by
 induction l with
 |nil=>simp at a
 |cons x l E=>grind
def bC:AF:=[95,95,116,121,112,101,110,97,109,101]
def iW(s:AI)(u name:AF):Option Ah:=
 if name=bC/\fQ s u=true then some ⟨name,[],⟨cW,0,1⟩,[]⟩ else if (bN s u).1.kind=1\/(bN s u).1.kind=2 then M0 (bN s u).1.fields name else none
section
variable {s s': AI} (hf:∀n,dQ s' n=dQ s n)
include hf
end
theorem P7{a:List Ag}{l:List AF}:x∈a.foldl (λl x=>iS l x name) l↔x∈l\/∃d∈a,d.kind=1/\name∈d.faces/\d.name=x:=by
 induction a generalizing l with
 |nil=>simp
 |cons d a E=>
  rw[List.foldl_cons,E];unfold iS;split
  ·rename_i h;rw[GR];constructor
   ·rintro ((h1|h1)|⟨q,hq,h2⟩)
    ·exact .inl h1
    ·exact .inr ⟨d,List.mem_cons_self .., h.1,h.2,h1.symm⟩
    ·exact .inr ⟨q,List.mem_cons_of_mem _ hq,h2⟩
   ·rintro (h1|⟨q,hq,h2,h3,h4⟩)
    ·exact .inl (.inl h1)
    ·rcases mem_cons.1 hq with rfl|hq
     ·exact .inl (.inr h4.symm)
     ·exact .inr ⟨q,hq,h2,h3,h4⟩
  ·rename_i h;constructor
   ·rintro (h1|⟨q,hq,h2⟩)
    ·exact .inl h1
    ·exact .inr ⟨q,List.mem_cons_of_mem _ hq,h2⟩
   ·rintro (h1|⟨q,hq,h2,h3,h4⟩)
    ·exact .inl h1
    ·rcases mem_cons.1 hq with rfl|hq
     ·exact absurd ⟨h2,h3⟩ h
     ·exact .inr ⟨q,hq,h2,h3,h4⟩
theorem P8{s:AI}{x:AF}{ps:List AF}:x∈ps.foldl (kB s) l↔x∈l\/(x∈ps/\fJ s x [1]=true):=by
 induction ps generalizing l with
 |nil=>simp
 |cons p ps E=>
  rw[List.foldl_cons,E];unfold kB;split
  ·rename_i h;rw[GR,mem_cons];constructor
   ·rintro ((h1|rfl)|h1)
    ·exact .inl h1
    ·exact .inr ⟨.inl rfl,h⟩
    ·exact .inr ⟨.inr h1.1,h1.2⟩
   ·rintro (h1|⟨rfl|h1,h2⟩)
    ·exact .inl (.inl h1)
    ·exact .inl (.inr rfl)
    ·exact .inr ⟨h1,h2⟩
  ·rename_i h;rw[mem_cons];constructor
   ·rintro (h1|h1)
    ·exact .inl h1
    ·exact .inr ⟨.inr h1.1,h1.2⟩
   ·rintro (h1|⟨rfl|h1,h2⟩)
    ·exact .inl h1
    ·exact absurd h2 h
    ·exact .inr ⟨h1,h2⟩
def GT{s:AI}:x∈jK s name↔∃d,dQ s name=some d/\((d.kind=1/\x=name)\/(d.kind=2/\∃e∈s.ah,e.kind=1/\name∈e.faces/\e.name=x)\/(d.kind=3/\x∈d.aw/\fJ s x [1]=true)):=by
 unfold jK;cases h:dQ s name with
 |none=>simp
 |some d=>
  simp only[Option.some.injEq,exists_eq_left'];by_cases a:d.kind=1
  ·simp[a]
  ·by_cases b:d.kind=2
   ·rw[if_neg a,if_pos b,P7];simp[b]
   ·by_cases c:d.kind=3
    ·rw[if_neg a,if_neg b,if_pos c,P8];simp[c]
    ·rw[if_neg a,if_neg b,if_neg c];simp[a,b,c]
def zU{s:AI}{n:AF}{d:Ag}(h:dQ s n=some d)(hk:d.kind≠0):d∈s.ah/\d.name=n:=by
 unfold dQ at h;split at h
 ·cases h;exact absurd rfl hk
 ·exact⟨List.mem_of_find?_eq_some h,by simpa using List.find?_some h⟩
def qB:Ah:=⟨[],[],⟨[],0,0⟩,[]⟩
def aK(s:AI)(u name:AF):Ah×Bool:=match iW s u name with
 |none=>(qB,false)
 |some f=>(f,true)
structure BQ where
 how:Int
 table:AF
 col:AF
 arg:AF
 bw:AF
 deriving DecidableEq
def BQ.C(b:BQ):AV := .agg [.int .i64 b.how, .str b.table, .str b.col, .str b.arg, .str b.bw]
theorem BQ.K(b:BQ):b.C.K=true:=rfl
@[simp] theorem aDY(n m:Nat)(x:BQ):(BQ.C x).aa n m=true:=aF n m _ (BQ.K x)
def sJ:BQ:=⟨0,[],[],[],[]⟩
def uF(l:List AG):List AF->Option (List AF)
 |[]=>some []
 |n::ns=>if (bR n l).2=true/\(bR n l).1.kind=4/\(bR n l).1.s≠[] then (uF l ns).map ((bR n l).1.s :: ·) else none
def dD(l:List AG)(ns:List AF):Option (List AF):=if l.length=ns.length then uF l ns else none
def GU(l:List AG):∀(ns xs:List AF),uF l ns=some xs->xs.length=ns.length/\∀x∈xs,x≠[]
 |[],xs,h=>by cases h;simp
 |n::ns,xs,h=>by
  rw[uF]at h
  split at h
  ·rename_i c
   cases e:uF l ns with
   |none=>rw[e]at h;cases h
   |some ys=>
    rw[e]at h
    cases h
    obtain⟨a,b⟩:=GU l ns ys e
    refine⟨W5,λx Y=> ?_⟩
    rcases mem_cons.1 Y with rfl|Y
    ·exact c.2.2
    ·exact b x Y
  ·cases h
def zV{l:List AG}{ns xs:List AF}(h:dD l ns=some xs):xs.length=ns.length/\∀x∈xs,x≠[]:=by
 unfold dD at h;split at h
 ·exact GU l ns xs h
 ·cases h
def uG{l:List AG}{a:AF}{xs:List AF}(h:dD l [a]=some xs):∃x,xs=[x]/\x≠[]:=by
 obtain⟨h1,h2⟩:=zV h
 match xs,h1 with
 |[x],_=>exact⟨x,rfl,h2 x Wa⟩
def gH{l:List AG}{a b:AF}{xs:List AF}(h:dD l [a,b]=some xs):∃x y,xs=[x,y]/\x≠[]/\y≠[]:=by
 obtain⟨h1,h2⟩:=zV h
 match xs,h1 with
 |[x,y],_=>exact⟨x,y,rfl,h2 x Wa,h2 y Wa⟩
def pE{l:List AG}{a b c:AF}{xs:List AF}(h:dD l [a,b,c]=some xs):∃x y z,xs=[x,y,z]/\x≠[]/\y≠[]/\z≠[]:=by
 obtain⟨h1,h2⟩:=zV h
 match xs,h1 with
 |[x,y,z],_=>exact⟨x,y,z,rfl,h2 x Wa,h2 y Wa,h2 z Wa⟩
def nW:AF:=[99,111,108]
def Di:AF:=[108,105,110,107]
def JP:AF:=[103,101,116]
def sDo:AF:=[100,111]
def Dj:AF:=[110,97,109,101]
def dJ:AF:=[116,97,98,108,101]
def JQ:AF:=[97,114,103]
def uH:AF:=[99,109,100]
def aCo:AF:=[97,100,100]
def P9:AF:=[112,117,116]
def Qa:AF:=[99,117,116]
def IA:AF:=[98,117,114,110]
def Qb(f:Ah)(table arg:AF):BQ×Bool:=match sD f.params arg with
 |none=>(sJ,false)
 |some p=>if (p.t.name=sID\/p.t.name=cW)/\p.t.ak=f.t.ak then (⟨2,table,[],arg,[]⟩,true) else (sJ,false)
def doB(l:List AG):BQ×Bool:=match dD l [uH,dJ,nW] with
 |some [a,b,c]=>(⟨3,b,c,[],a⟩,a==aCo)
 |_=>match dD l [uH,dJ] with
  |some [a,b]=>(⟨3,b,[],[],a⟩,a==P9||(a==Qa||a==IA))
  |_=>(sJ,false)
def JR(f:Ah)(d:AM):BQ×Bool:=
 if d.name=nW then (match dD d.args [Dj] with|some [a]=>(⟨0,[],a,[],[]⟩,true)|_=>(sJ,false))
 else if d.name=Di then (match dD d.args [dJ,nW] with|some [a,b]=>(⟨1,a,b,[],[]⟩,true)|_=>(sJ,false))
 else if d.name=JP then (match dD d.args [dJ,JQ] with|some [a,b]=>Qb f a b|_=>(sJ,false))
 else if d.name=sDo then doB d.args else (sJ,false)
def jT(f:Ah):BQ×Bool:=match f.ao with
 |[]=>(⟨0,[],f.name,[],[]⟩,true)
 |[d]=>JR f d
 |_=>(sJ,false)
def f9(s:AI)(u:AF):Bool:=s.ar != []&&u==s.ar
def m9(s:AI)(name:AF):Bool:=fQ s name && !(s.ar != []&&decide (s.ar∈jK s name))
def DW(s:AI)(u:AF)(f:Ah)(how:Int):Bool:=
 if how=0 then eC s f.t.name && !f9 s u
 else if how=3 then decide (f.t.ak=0)&&((eC s f.t.name||m9 s f.t.name)&&f9 s u)
 else m9 s f.t.name && !f9 s u
def ofB(s:AI)(u:AF)(f:Ah):BQ×Bool:=if (jT f).2=true/\f.name≠bC/\DW s u f (jT f).1.how=true then ((jT f).1,true) else (sJ,false)
def GV{f:Ah}(h:(jT f).2=true):((jT f).1.how=0\/(jT f).1.how=1\/(jT f).1.how=2\/(jT f).1.how=3)/\((jT f).1.how=1\/(jT f).1.how=2->(jT f).1.table≠[])/\
  ((jT f).1.how=2->∃p∈f.params,p.name=(jT f).1.arg/\p.t.ak=f.t.ak/\(p.t.name=sID\/p.t.name=cW)):=by
 unfold jT at h ⊢;split at h
 ·simp_all
 ·rename_i d g;unfold JR at h ⊢;split at h
  ·rename_i c;rw[if_pos c];cases e:dD d.args [Dj] with
   |none=>rw[e]at h;cases h
   |some xs=>obtain⟨x,rfl,_⟩:=uG e;simp
  rename_i i;rw[if_neg i];split at h
  ·rename_i c;rw[if_pos c];cases e:dD d.args [dJ,nW] with
   |none=>rw[e]at h;cases h
   |some xs=>obtain⟨x,y,rfl,Y,hy⟩:=gH e;simp[Y]
  rename_i j;rw[if_neg j];split at h
  ·rename_i c;rw[if_pos c];cases e:dD d.args [dJ,JQ] with
   |none=>rw[e]at h;cases h
   |some xs=>
    obtain⟨x,y,rfl,Y,hy⟩:=gH e;rw[e]at h;dsimp only at h ⊢;unfold Qb at h ⊢;cases b:sD f.params y with
    |none=>rw[b]at h;cases h
    |some p=>
     rw[b]at h;dsimp only at h ⊢;by_cases a:(p.t.name=sID\/p.t.name=cW)/\p.t.ak=f.t.ak
     ·rw[if_pos a];refine⟨.inr (.inr (.inl rfl)),λ_=>Y,λ_=>⟨p,List.mem_of_find?_eq_some b,by simpa using List.find?_some b,a.2,a.1⟩⟩
     ·rw[if_neg a]at h;cases h
  rename_i k;rw[if_neg k];split at h
  ·rename_i c;rw[if_pos c];have g:(doB d.args).2=true->(doB d.args).1.how=3:=by
    unfold doB;cases e:dD d.args [uH,dJ,nW] with
    |some xs=>obtain⟨x,y,z,rfl,_⟩:=pE e;exact λ_=>rfl
    |none=>
     dsimp only;cases l:dD d.args [uH,dJ] with
     |some xs=>obtain⟨x,y,rfl,_⟩:=gH l;exact λ_=>rfl
     |none=>intro h;cases h
   have:=g h;omega
  ·cases h
 ·cases h
def Ff{s:AI}{u:AF}{f:Ah}(h:(ofB s u f).2=true):(jT f).2=true/\(ofB s u f).1=(jT f).1/\DW s u f (ofB s u f).1.how=true:=by
 unfold ofB at h ⊢;by_cases c:(jT f).2=true/\f.name≠bC/\DW s u f (jT f).1.how=true
 ·rw[if_pos c];exact⟨c.1,rfl,c.2.2⟩
 ·rw[if_neg c]at h;cases h
def GW{s:AI}{u:AF}{f:Ah}(h:(ofB s u f).2=true):(decide ((ofB s u f).1.how=3)=f9 s u)/\((ofB s u f).1.how=0->eC s f.t.name=true)/\
  ((ofB s u f).1.how=1\/(ofB s u f).1.how=2->fQ s f.t.name=true/\(ofB s u f).1.table≠[]):=by
 obtain⟨h1,h2,h3⟩:=Ff h;obtain⟨d,c,_⟩:=GV h1;rw[h2]at h3 ⊢;unfold DW m9 at h3;refine⟨?_,λe=> ?_,λe=> ?_⟩
 ·by_cases b:(jT f).1.how=0
  ·rw[if_pos b]at h3;simp only[and_eq_true,Bool.not_eq_true']at h3;rw[h3.2,b];rfl
  ·rw[if_neg b]at h3;by_cases a:(jT f).1.how=3
   ·rw[if_pos a]at h3;simp only[and_eq_true,Bool.not_eq_true']at h3;rw[h3.2.2,a];rfl
   ·rw[if_neg a]at h3;simp only[and_eq_true,Bool.not_eq_true']at h3;rw[h3.2];simp[a]
 ·rw[if_pos e,and_eq_true]at h3;exact h3.1
 ·rw[if_neg om,if_neg om]at h3;simp only[and_eq_true]at h3;exact⟨h3.1.1,c e⟩
abbrev VE:=AH×Int
def oU(name:AF)(v:AH):VE:=
 if name=C8/\v.kind=2/\(v.n < -2147483648\/2147483647<v.n) then (bO,8)
 else if name=sID/\v.kind=2 then (jJ (Lib.itoa v.n),0)
 else if (name=C8/\v.kind=2)\/(name=iB/\v.kind=1)\/((name=cW\/name=sID)/\v.kind=4) then (v,0) else (bO,7)
def uI(wr:Bool)(d:Ag)(k:Int)(str:AF):VE:=if k=(if wr=true then 5 else 4)/\str∈d.aw then (jJ str,0) else (bO,7)
def oF(A:List AG)(name:AF):Option AH:=(A.find? λm=>m.name==name).map AG.v
def fX(wr:Bool)(A:List AG)(v:AH):Bool := !(wr&&v.kind==8)||(oF A v.s).isSome
def OI:Nat->AH->AH
 |0,v=>v
 |n+1,v => .mk 6 0 [] [OI n v] []
def IB(n:Nat)(r:VE):VE:=if r.2=0 then (OI n r.1,0) else r
abbrev MF:=AF×AH×(Ae->VE)
def zW(fs:List MF)(name:AF):Option MF:=fs.find? λf=>f.1==name
def oY(s:AI)(wr within:Bool)(A:List AG)(dfl:AO->VE)(fs:List MF)(p:AO):AH×Bool×Int:=
 match (zW fs p.name).bind λf=>if fX wr A f.2.1=true then some f else none with
 |some f=>((f.2.2 p.t).1,true,(f.2.2 p.t).2)
 |none=>if p.has=true/\(within=false\/eC s p.t.name=true) then ((dfl p).1,true,(dfl p).2) else if isT p.t=true then (bO,false,9) else (bO,false,0)
def lA(s:AI)(wr within:Bool)(A:List AG)(dfl:AO->VE)(fs:List MF):List AO->List AG×Int
 |[]=>([],0)
 |p::ps=>
  let r:=oY s wr within A dfl fs p
  if r.2.2≠0 then ([],r.2.2) else
   let q:=lA s wr within A dfl fs ps
   if q.2≠0 then ([],q.2) else (if r.2.1=true then .mk p.name r.1::q.1 else q.1,0)
def Fg(wr:Bool)(A:List AG)(fs:List MF)(ps:List AO):Bool:=fs.any λf=>(sD ps f.1).isNone&&(match zW fs f.1 with|some g=>fX wr A g.2.1|none=>false)
def nA(s:AI)(wr:Bool)(A:List AG)(dfl:AO->VE)(fs:List MF)(d:Ag):VE:=
 if Fg wr A fs d.params=true then (bO,6) else
  let q:=lA s wr true A dfl fs d.params
  if q.2≠0 then (bO,q.2) else (.mk 7 0 [] [] q.1,0)
def mF(s:AI)(wr:Bool)(A:List AG)(dfl:AO->VE)(name:AF)(v:AH)(fs:List MF):VE:=
 match dQ s name with
 |none=>(bO,7)
 |some d=>if d.kind=0 then oU name v else if d.kind=4 then uI wr d v.kind v.s else if d.kind=5 then (if v.kind=7 then nA s wr A dfl fs d else (bO,7)) else (bO,7)
def gW(wr:Bool)(t:Ae)(k:Int):Bool:=decide (0<t.ak)&&(k != 6&&(k != 0 && !(wr&&k==8)))
mutual
def mkV(s:AI)(wr:Bool)(A:List AG)(dfl:AO->VE):AH->Ae->VE
 | .mk k n str l m,t=>
  if wr=true/\k=8 then (match oF A str with
   |some x=>if x.kind=0/\isT t=true then (bO,9) else (x,0)
   |none=>if isT t=true then (bO,9) else (bO,0))
  else if k=0 then (if isT t=true then (bO,9) else (.mk k n str l m,0))
  else if cC t=true/\t.ak≠0 then
   (if k=6 then (let q:=mkL s wr A dfl l (b7 t);if q.2≠0 then (bO,q.2) else (.mk 6 0 [] q.1 [],0))
   else IB t.ak.toNat (mF s wr A dfl t.name (.mk k n str l m) (mkM s wr A dfl m)))
  else mF s wr A dfl t.name (.mk k n str l m) (mkM s wr A dfl m)
def mkL(s:AI)(wr:Bool)(A:List AG)(dfl:AO->VE):List AH->Ae->List AH×Int
 |[],_=>([],0)
 |v::l,t=>
  if gW wr t v.kind=true then ([],7) else
   let r:=mkV s wr A dfl v t
   if r.2≠0 then ([],r.2) else
    let q:=mkL s wr A dfl l t
    if q.2≠0 then ([],q.2) else (r.1::q.1,0)
def mkM(s:AI)(wr:Bool)(A:List AG)(dfl:AO->VE):List AG->List MF
 |[]=>[]
 | .mk nm v::m=>(nm,v,λt=>if cC t=true/\g7 fT v=true then mkV s wr A dfl v t else (bO,1))::mkM s wr A dfl m
end
def IC:AO->VE:=λ_=>(bO,7)
def qC(s:AI)(wr:Bool)(A:List AG)(dfl:AO->VE)(t:Ae)(v:AH):VE:=if cC t=true/\g7 fT v=true then mkV s wr A dfl v t else (bO,1)
def cX(s:AI):AO->VE:=λp=>qC s true [] IC p.t p.d
def aCp(s:AI)(t:Ae)(v:AH)(A:List AG):VE:=qC s true A (cX s) t v
def lC(s:AI):AO->VE:=λp=>aCp s p.t p.d []
def dV(s:AI)(ps:List AO)(args A:List AG):List AG×Int:=lA s true false A (lC s) (mkM s true A (cX s) args) ps
def GX(s:AI)(ps:List AO)(vars:List AG):List AG×Int:=lA s false false [] (lC s) (mkM s false [] (cX s) vars) ps
def SB(N:Nat)(E:∀a b:AH,a.size<=N->AN prog 213 [a.C,b.C] (.bool (rY a b)))(a b:List AG)(ha:a.length<=9223372036854775807)(hs:∀x∈a,x.v.size<=N):
  AN prog 271 [.slice (a.map AG.C) .no, .slice (b.map AG.C) .no] (.bool (qO a b)):=by
 refine pEn 4 func271 ?_;by_cases hl:a.length=b.length
 ·have d:((a.length:Int) != (b.length:Int))=false:=by simp[hl]
  refine .go ?_;change AB _ _ _ _ _ _ _;refine AB.loop (λn s H=>∃k:Nat,n=a.length-k/\k<=a.length/\qO a b=qO (a.drop k) (b.drop k)/\H=⟨[],[]⟩/\
   s=[(5, .int .i64 k),(0, .slice (a.map AG.C) .no),(1, .slice (b.map AG.C) .no)])
   (s0:=[(5, .int .i64 (0:Nat)),(0, .slice (a.map AG.C) .no),(1, .slice (b.map AG.C) .no)])
   Z0 ⟨0,rfl,zero_le _,rfl,rfl,rfl⟩ ?_
  rintro n s H ⟨k,rfl,hk,hp,rfl,rfl⟩;by_cases h1:k<a.length
  ·have e:=ltT h1;have x1:=aU (f:=AG.C) h1;have h2:k<b.length:=om
   have g:=aU (f:=AG.C) h2;have c:=E a[k].v b[k].v (hs _ (getElem_mem h1))
   repeat' first|refine .s1 ?_|(refine .q ?_ ?_<;>intro O)|refine aH c ?_|fail
   all_goals first
    |(refine aP rfl (AC.eq ?_);rw[hp,FP h1 h2];simp_all;done)
    |(refine⟨a.length-(k+1),om,[(5, .int .i64 ((k+1:Nat):Int)),(0, .slice (a.map AG.C) .no),(1, .slice (b.map AG.C) .no)],
     Z0,by simp[aM,AV.aa,dE],rfl,k+1,rfl,om,by rw[hp,FP h1 h2];simp_all,rfl,rfl⟩;done)
  ·have e:=ltF h1;refine .go ?_;refine aP rfl (AC.eq ?_);rw[hp,drop_eq_nil_of_le om,drop_eq_nil_of_le om,qO]
 ·have d:((a.length:Int) != (b.length:Int))=true:=by simp;omega
  refine .go ?_;exact aP rfl (AC.eq (by rw[HV hl]))
theorem SC{g:Gh}{w:World}{v:AH}{u:Value}(h:Ab g w v.C u):v.l.length<=9223372036854775807/\v.m.length<=9223372036854775807:=by obtain⟨vs,_,h1,_⟩:=h;obtain⟨x,_,h2⟩:=h1.get (i:=3) (c := .slice v.lv .no) rfl;obtain⟨y,_,h3⟩:=h1.get (i:=4) (c := .slice v.mv .no) rfl;have h4:=I6 h2;have a:=I6 h3;rw[v.ba]at h4;rw[v.bl]at a;exact⟨h4,a⟩
def ID:∀(N:Nat) (a b:AH),a.size<=N->AN prog 213 [a.C,b.C] (.bool (rY a b))
 |0,a,b,h=>absurd h (by have:=a.au;omega)
 |N+1,a,b,h=>FB ⟨_,func213,rfl,rfl⟩ (by simp[aB,AH.K]) (λg w vs ⟨u,r,_,hu,_⟩=>SC hu) λ⟨j,o⟩=>by
  have E:=λa b h=>ID N a b h
  have c:=SB N E a.m b.m om (λx Y=>by
   have h1:=aN (size:=AG.size) Y
   have h2:x.size=x.name.length+2+x.v.size:=rfl
   have:=a.ax
   omega)
  rw[<-AH.bf, <-AH.bf]at c
  refine pEn 4 func213 ?_
  have e:=QQ a b
  repeat' first|refine NL rfl rfl rfl YU ?_|refine .s1 ?_|(refine .q ?_ ?_<;>intro O)|fail
  all_goals try (refine aP rfl (AC.eq ?_);rw[e];first|(simp_all;done)|(rw[HU (p:=a.l) (q:=b.l) (by simp at O;omega)];simp;done))
  have i:a.l.length=b.l.length:=by simp at O;omega
  change AB _ _ _ _ _ _ _
  refine AB.loop (λn s H=>∃k:Nat,n=a.l.length-k/\k<=a.l.length/\qN a.l b.l=qN (a.l.drop k) (b.l.drop k)/\
   H=⟨[.cells [.int .i64 a.kind, .int .i64 a.n, .str a.s, .slice a.lv .no, .slice a.mv .no], .cells [.int .i64 b.kind, .int .i64 b.n, .str b.s, .slice b.lv .no, .slice b.mv .no]],[]⟩/\
   s=[(5, .int .i64 k),(2, .ptr 0 0),(3, .ptr 1 0)])
   (s0:=[(5, .int .i64 (0:Nat)),(2, .ptr 0 0),(3, .ptr 1 0)])
   Z0 ⟨0,rfl,zero_le _,rfl,rfl,rfl⟩ ?_
  rintro n s H ⟨k,rfl,hk,hp,rfl,rfl⟩
  by_cases h1:k<a.l.length
  ·have f:=ltT h1
   have x1:=lK h1
   have h2:k<b.l.length:=om
   have t:=lK h2
   have d:=E a.l[k] b.l[k] Zm
   repeat' first|refine NL rfl rfl rfl YU ?_|refine .s1 ?_|(refine .q ?_ ?_<;>intro O)|refine aH d ?_|fail
   ·refine aP rfl (AC.eq ?_)
    rw[e,hp,FO h1 h2];simp_all
   ·refine⟨a.l.length-(k+1),om,[(5, .int .i64 ((k+1:Nat):Int)),(2, .ptr 0 0),(3, .ptr 1 0)],
     Z0,Wg,by simp[aQ,aL,Ob.aa,aE,AV.aa,mK,mL],k+1,rfl,om,by rw[hp,FO h1 h2];simp_all,rfl,rfl⟩
  ·have f:=ltF h1
   repeat' first|refine NL rfl rfl rfl YU ?_|refine .s1 ?_|(refine .q ?_ ?_<;>intro O)|refine aH c ?_|fail
   refine aP rfl (AC.eq ?_)
   rw[e,hp,drop_eq_nil_of_le om,drop_eq_nil_of_le om]
   rw[show qN [] []=true by rw[qN]]
   simp_all
def OJ(a b:AH):AN prog 213 [a.C,b.C] (.bool (rY a b)):=ID a.size a b (le_refl _)
structure Row where
 key:AF
 av:AF
 aq:List AG
 broken:Bool
def Row.cells(r:Row):List AV:=[.str r.key, .str r.av, .slice (r.aq.map AG.C) .no, .bool r.broken]
def Row.C(r:Row):AV := .agg r.cells
structure AY where
 name:AF
 af:List Row
def AY.C(t:AY):AV := .agg [.str t.name, .slice (t.af.map Row.C) .no]
structure Aa where
 table:AF
 key:AF
def Aa.C(n:Aa):AV := .agg [.str n.table, .str n.key]
structure Bt where
 row:Row
 is:Bool
 e:Int
def Bt.C(g:Bt):AV := .agg [.str g.row.key, .str g.row.av, .slice (g.row.aq.map AG.C) .no, .bool g.row.broken, .bool g.is, .int .i64 g.e]
structure BH where
 name:AF
 table:AF
 col:AF
 av:AF
 args:List AG
def BH.C(c:BH):AV := .agg [.str c.name, .str c.table, .str c.col, .str c.av, .slice (c.args.map AG.C) .no]
def Tbls.C(l:List AY):AV := .slice (l.map AY.C) .no
theorem Row.K(r:Row):r.C.K=true:=by simp[Row.C,Row.cells,AV.K,aB,aT]
theorem mQ(l:List Row):aB (l.map Row.C)=true:=bF Row.K l
theorem AY.K(t:AY):t.C.K=true:=by simp[AY.C,AV.K,aB,mQ]
theorem GY(l:List AY):aB (l.map AY.C)=true:=bF AY.K l
theorem Aa.K(n:Aa):n.C.K=true:=rfl
theorem Bt.K(g:Bt):g.C.K=true:=by simp[Bt.C,AV.K,aB,aT]
theorem BH.K(c:BH):c.C.K=true:=by simp[BH.C,AV.K,aB,aT]
theorem Tbls.K(l:List AY):(Tbls.C l).K=true:=by simp[Tbls.C,AV.K,GY]
theorem gL(n m:Nat)(l:List Row):aE n m (l.map Row.C)=true:=aC n m _ (mQ l)
theorem fG(n m:Nat)(l:List AY):aE n m (l.map AY.C)=true:=aC n m _ (GY l)
theorem Row.fits(r:Row):Av.fits true 4 r.C=true:=rfl
theorem AY.fits(t:AY):Av.fits true 2 t.C=true:=rfl
def oG(l:List Row):Av.eQ true 4 (l.map Row.C)=true:=iM Row.fits l
def nX(l:List AY):Av.eQ true 2 (l.map AY.C)=true:=iM AY.fits l
def zX(l:List AG):Av.eQ true 6 (l.map AG.C)=true:=iM AG.fits l
def Row.size(r:Row):Nat:=r.key.length+r.av.length+aA AG.size r.aq+4
def AY.size(t:AY):Nat:=t.name.length+aA Row.size t.af+2
def Row.ok(r:Row):Prop:=∀m∈r.aq,m.ok
def AY.ok(t:AY):Prop:=∀r∈t.af,r.ok
def M9(n:Nat):AP prog n 4 false (λx:Bool => .bool x) (λ_=>1) (λ_=>True):=AP.bool underlying4
def Qc:∀n:Nat,AP prog n 99 true Row.C Row.size Row.ok
 |0=>AP.zero
 |n+1=>(AP.struct underlying99 Wb
   (AU.cons (c:=1) rfl Wb (bL λ_=>rfl) (dO n)
    (AU.cons (c:=1) rfl Wb (bL λ_=>rfl) (dO n)
     (AU.cons (c:=1) rfl Wb (bL λ_=>rfl) (tL n)
      (AU.cons (c:=1) rfl Wb (bL λ_=>rfl) (M9 n) AU.nil))))).map
   (λx=>(⟨x.1,x.2.1,x.2.2.1,x.2.2.2.1⟩:Row)) (λ_=>rfl) (λx=>by simp only[Row.size];omega) (λx h=>h.2.2.1)
def Na:∀n:Nat,AP prog n 130 false (λl => .slice (l.map Row.C) .no) (λl=>aA Row.size l+1) (λl=>∀x∈l,x.ok)
 |0=>AP.zero
 |n+1=>AP.slice underlying130 (c:=4) Wb Wc (Qc n)
def Qd:∀n:Nat,AP prog n 132 true AY.C AY.size AY.ok
 |0=>AP.zero
 |n+1=>(AP.struct underlying132 Wb
   (AU.cons (c:=1) rfl Wb (bL λ_=>rfl) (dO n)
    (AU.cons (c:=1) rfl Wb (bL λ_=>rfl) (Na n) AU.nil))).map
   (λx=>(⟨x.1,x.2.1⟩:AY)) (λ_=>rfl) (λx=>by simp only[AY.size];omega) (λx h=>h.2.1)
def Nb:∀n:Nat,AP prog n 30 false Tbls.C (λl=>aA AY.size l+1) (λl=>∀x∈l,x.ok)
 |0=>AP.zero
 |n+1=>AP.slice underlying30 (c:=2) Wb Wc (Qd n)
def Nc(l:List AG)(h:l.length<=1048576):AN prog 54 [.slice (l.map AG.C) .no] (.slice (l.map AG.C) .no):=by
 have hl:(l.map AG.C).length=l.length:=List.length_map ..
 refine pEn 2 func54 ?_;refine tC 0 rfl (λhn=> ?_) ?_
 ·repeat' first|refine .s1 ?_|(refine .q ?_ ?_<;>intro O)|refine I4 rfl rfl rfl ?_|fail
  exact aP rfl (AC.no (AA.eq hn.symm))
 ·repeat' first|refine .s1 ?_|(refine .q ?_ ?_<;>intro O)|refine Fw rfl rfl rfl ?_|refine sZ (n:=0) rfl rfl rfl rfl rfl rfl rfl rfl rfl rfl (zX l) Wl om rfl ?_|fail
  exact aP rfl (AC.no (AA.eq (List.nil_append _)))
def SD(r:Row)(h:r.aq.length<=1048576):AN prog 50 [r.C] r.C:=by
 refine pER [.cell 2 99] func50 (O:=Row.K r) (ha:=by simp[aB,Row.K]) ?_;have O:=Nc r.aq h
 repeat' first|refine .s1 ?_|(refine .q ?_ ?_<;>intro O)|refine aH O ?_|fail
 exact aO
def SF(l:List Row)(f:FuncId)(c:AV)(p:Row->Bool)(hl:l.length<=9223372036854775807)(a:c.K=true)(hf:∀x∈l,AN prog f [x.C,c] (.bool (p x))):
  AN prog 176 [.slice (l.map Row.C) .no, .fn (.func f) [] [c]] (.int .i64 (bE p l 0)):=by
 refine pEn 4 func176 (ha:=by simp[AV.K,aB,mQ,a]) ?_;refine .go ?_;change AB _ _ _ _ _ _ _;refine AB.loop (λn s H=>∃k:Nat,n=l.length-k/\k<=l.length/\bE p l 0=bE p (l.drop k) k/\H=⟨[],[]⟩/\
  s=[(8, .int .i64 k),(7, .int .i64 l.length),(0, .slice (l.map Row.C) .no),(1, .fn (.func f) [] [c])])
  (s0:=[(8, .int .i64 (0:Nat)),(7, .int .i64 l.length),(0, .slice (l.map Row.C) .no),(1, .fn (.func f) [] [c])])
  Z0 ⟨0,rfl,zero_le _,rfl,rfl,rfl⟩ ?_
 rintro n s H ⟨k,rfl,hk,hp,rfl,rfl⟩;by_cases h1:k<l.length
 ·have d:=ltT h1;have x1:=aU (f:=Row.C) h1;have b:=hf l[k] (getElem_mem h1)
  repeat' first|refine .s1 ?_|(refine .q ?_ ?_<;>intro O)|refine I3 rfl rfl b (aD _) ?_|fail
  ·refine aP rfl (AC.eq ?_);rw[hp,cP h1,if_pos O]
  ·refine⟨l.length-(k+1),om,[(8, .int .i64 ((k+1:Nat):Int)),(7, .int .i64 l.length),(0, .slice (l.map Row.C) .no),(1, .fn (.func f) [] [c])],
    Z0,by simp[aM,AV.aa,aE,gL,aF _ _ _ a],rfl,k+1,rfl,om,Xt,rfl,rfl⟩
 ·have d:=ltF h1;refine .go ?_;refine aP rfl (AC.eq ?_);rw[hp,drop_eq_nil_of_le om,bE]
def UN(r:Row)(a:AF):AN prog 177 [r.C, .ab (.str a)] (.bool (r.key==a)):=by refine pEn 3 func177 (ha:=by simp[aB,Row.K,AV.K]) ?_;refine .go ?_;exact bW
def Lr{t1:Nat}{s:AE}{a b r:AV}(h1:lk? s t1=some a)(h2:lk? s t2=some b)(hw:AC (.tup [a,b]) r):∃c,Av.ret (gK s [t1,t2]) = .ret c/\AC c r:=
 ⟨_,rfl,Wq⟩
def dY(name key:AF):List AY->Nat->Int×Int
 |[],_=>(-1, -1)
 |t::l,k=>if t.name==name then ((k:Int),bE (λr:Row=>r.key==key) t.af 0) else dY name key l (k+1)
theorem wY{a:AF}{l:List AY}(h:k<l.length):
  dY name a (l.drop k) k=if l[k].name==name then ((k:Int),bE (λr:Row=>r.key==a) l[k].af 0) else dY name a (l.drop (k+1)) (k+1):=by rw[List.drop_eq_getElem_cons h,dY]
def yS(l:List AY)(name a:AF)(hl:l.length<=9223372036854775807)(hr:∀t∈l,t.af.length<=9223372036854775807):
  AN prog 112 [Tbls.C l, .str name, .str a] (.tup [.int .i64 (dY name a l 0).1, .int .i64 (dY name a l 0).2]):=by
 refine AQ.plain rfl XW (cK [6,7] func112 ?_)
 repeat' first|refine dB ?_|refine .s1 ?_|(refine .q ?_ ?_<;>intro O)|fail
 change AB _ _ _ _ _ _ _;refine AB.loop (λn s H=>∃k:Nat,n=l.length-k/\k<=l.length/\dY name a l 0=dY name a (l.drop k) k/\H=⟨[],[]⟩/\
  s=[(14, .int .i64 k),(13, .int .i64 l.length),(12,Tbls.C l),(8, .int .i64 (-1)),(9, .int .i64 (-1)),(5, .ab (.str a)),(1, .str name)])
  (s0:=[(14, .int .i64 (0:Nat)),(13, .int .i64 l.length),(12,Tbls.C l),(8, .int .i64 (-1)),(9, .int .i64 (-1)),(5, .ab (.str a)),(1, .str name)])
  Z0 ⟨0,rfl,zero_le _,rfl,rfl,rfl⟩ ?_
 rintro n s H ⟨k,rfl,hk,hp,rfl,rfl⟩;by_cases h1:k<l.length
 ·have c:=ltT h1;have x1:=aU (f:=AY.C) h1;have b:=SF l[k].af 177 (.ab (.str a)) (λr=>r.key==a) (hr _ (getElem_mem h1)) rfl (λx _=>UN x a)
  repeat' first|refine .s1 ?_|(refine .q ?_ ?_<;>intro O)|refine tA rfl rfl ?_|refine aH b ?_|fail
  ·refine⟨l.length-(k+1),om,[(14, .int .i64 ((k+1:Nat):Int)),(13, .int .i64 l.length),(12,Tbls.C l),(8, .int .i64 (-1)),(9, .int .i64 (-1)),(5, .ab (.str a)),(1, .str name)],
    Z0,Xc,rfl,k+1,rfl,om,by rw[hp,wY h1,if_neg Ze],rfl,rfl⟩
  ·refine Lr rfl rfl (AC.eq ?_);rw[hp,wY h1,if_pos Ze]
 ·have c:=ltF h1;refine .go ?_;refine Lr rfl rfl (AC.eq ?_);rw[hp,drop_eq_nil_of_le om,dY]
def wZ(name a:AF):∀(l:List AY) (k:Nat),(dY name a l k=(-1, -1)/\l.find? (λt=>t.name==name)=none)\/
  ∃(j:Nat) (h:j<l.length),dY name a l k=(((k+j:Nat):Int),bE (λr:Row=>r.key==a) l[j].af 0)/\l.find? (λt=>t.name==name)=some l[j]
 |[],k => .inl ⟨rfl,rfl⟩
 |x::l,k=>by
  by_cases e:(x.name==name)=true
  ·exact .inr ⟨0,Wa,by simp only[dY,if_pos e];simp,by simp only[List.find?, e];rfl⟩
  ·have b:(x.name==name)=false:=by simpa using e
   rcases wZ name a l (k+1) with⟨h1,h2⟩|⟨j,h,h1,h2⟩
   ·exact .inl ⟨by simp only[dY,if_neg e,h1],by simp only[List.find?, b,h2]⟩
   ·refine .inr ⟨j+1,Wp, ?_,by simp only[List.find?, b,h2];rfl⟩
    simp only[dY,if_neg e,h1]
    simp
    omega
def qW:Row:=⟨[],[],[],false⟩
def qX:Bt:=⟨qW,false,0⟩
def EQ(r:Row):Bt:=if r.broken then ⟨qW,false,10⟩ else ⟨r,true,0⟩
def cN(l:List AY)(n:Aa):Bt:=
 match l.find? (λt=>t.name==n.table) with
 |none=>qX
 |some t=>match t.af.find? (λr=>r.key==n.key) with
  |none=>qX
  |some r=>EQ r
def oH{r:Row}{b:Bool}{e:Int}{t:Tk}{cs:List AV}(h:cs=r.aq.map AG.C):AC (.agg [.str r.key, .str r.av, .slice cs t, .bool r.broken, .bool b, .int .i64 e]) (Bt.C ⟨r,b,e⟩):=by subst h;exact AC.agg (AA.cons (aG _) (AA.cons (aG _) (AA.cons (AC.no (aD _)) (aD _))))
def aCq(l:List AY)(n:Aa)(hl:l.length<=9223372036854775807)(hr:∀t∈l,t.af.length<=9223372036854775807)(a:∀t∈l,∀r∈t.af,r.aq.length<=1048576):
  AN prog 56 [Tbls.C l,n.C] (cN l n).C:=by
 refine pER [.cell 4 101] func56 (O:=Bt.K _) (ha:=by simp[aB,Tbls.K,Aa.K]) ?_;have hp:=yS l n.table n.key hl hr;rcases wZ n.table n.key l 0 with⟨h1,h2⟩|⟨i,X,h1,h2⟩
 ·rw[h1]at hp
  repeat' first|refine .s1 ?_|(refine .q ?_ ?_<;>intro O)|refine aH hp ?_|fail
  refine aI rfl ?_;have e:cN l n=qX:=by rw[cN,h2]
  rw[e];exact oH (r:=qW) rfl
 ·rw[h1]at hp;simp only[zero_add]at hp;rcases eV (λr:Row=>r.key==n.key) l[i].af 0 with⟨h3,h4⟩|⟨k,hk,h3,h4⟩
  ·rw[h3]at hp
   repeat' first|refine .s1 ?_|(refine .q ?_ ?_<;>intro O)|refine aH hp ?_|fail
   refine aI rfl ?_;have e:cN l n=qX:=by rw[cN,h2];simp only[h4]
   rw[e];exact oH (r:=qW) rfl
  ·rw[h3]at hp;simp only[zero_add]at hp;have x1:=aU (f:=AY.C) X;have c:=aU (f:=Row.C) hk;have b:decide ((k:Int)<0)=false:=by simp
   have ht:=SD l[i].af[k] (a _ (getElem_mem X) _ (getElem_mem hk))
   repeat' first|refine .s1 ?_|(refine .q ?_ ?_<;>intro O)|refine aH hp ?_|refine aH ht ?_|fail
   all_goals refine aI rfl ?_
   ·have e:cN l n=⟨qW,false,10⟩:=by rw[cN,h2];simp only[h4,EQ];rw[if_pos O]
    rw[e];exact oH (r:=qW) rfl
   ·have e:cN l n=⟨l[i].af[k],true,0⟩:=by rw[cN,h2];simp only[h4,EQ];rw[if_neg W8]
    rw[e];exact oH rfl
def qY(t:AY):AV := .agg [.str t.name, .Y 1 4 t.af.length 0 t.af.length]
def fR(l:List AY)(i k:Nat):List AV:=
 match l[i]? with
 |some t=>((l.take k).map AY.C).set i (qY t)
 |none=>(l.take k).map AY.C
def qZ(l:List AY)(i k:Nat):List Tok:=
 match l[i]? with
 |some t=>if i<k then [.Y (fR l i k), .Y (t.af.map Row.C)] else [.Y (fR l i k)]
 |none=>[.Y (fR l i k)]
def Ls(l:List AY)(i k:Nat)(h:k<=l.length):(fR l i k).length=k:=by unfold fR;split<;>simp<;>omega
theorem oI{a n:Nat}:∀(xs ys:List AV),aE a n (xs++ys)=(aE a n xs&&aE a n ys)
 |[],ys=>by simp[aE]
 |x::xs,ys=>by rw[List.cons_append,aE,aE,oI xs ys,Bool.and_assoc]
def jU{a n:Nat}(l:List AY)(i k:Nat)(h:i<k->1<n):aE a n (fR l i k)=true:=by
 have O:∀L:List AY,aE a n (L.map AY.C)=true:=λL=>fG a n L
 unfold fR;split
 ·rename_i t ht;by_cases c:i<k
  ·have d:∀(L:List AV) (j:Nat) (y:AV),aE a n L=true->y.aa a n=true->aE a n (L.set j y)=true:=by
    intro L;induction L with
    |nil=>intro j y h1 h2;exact h1
    |cons b L E=>
     intro j y h1 h2;simp only[aE,and_eq_true]at h1;cases j with
     |zero=>simp only[set_cons_zero,aE,and_eq_true];exact⟨h2,h1.2⟩
     |succ j=>simp only[set_cons_succ,aE,and_eq_true];exact⟨h1.1,E j y h1.2 h2⟩
   refine d _ _ _ (O _) ?_;simp[qY,AV.aa,aE,h c]
  ·rw[List.set_eq_of_length_le Wh];exact O _
 grind
def JS(l:List AY)(i k:Nat)(hk:k<l.length):fR l i (k+1)=fR l i k++[if i=k then qY l[k] else l[k].C]:=by
 have b:(l.take (k+1)).map AY.C=(l.take k).map AY.C++[l[k].C]:=by rw[List.take_succ_eq_append_getElem hk,map_append];rfl
 have a:((l.take k).map AY.C).length=k:=Wh
 unfold fR;split
 ·rename_i t ht;rw[b];by_cases e:i=k
  ·subst e;have:t=l[i]:=by rw[getElem?_eq_getElem hk]at ht;exact(Option.some.inj ht).symm
   subst this;rw[List.set_append_right _ _ om,a,Nat.sub_self,if_pos rfl,List.set_eq_of_length_le (l:=(l.take i).map AY.C) om];rfl
  ·rw[if_neg e];by_cases h:i<k
   ·simp_all
   ·rw[List.set_append_right _ _ om,a,List.set_eq_of_length_le (l:=(l.take k).map AY.C) om,List.set_eq_of_length_le Wh]
 ·grind
theorem GZ{f:α->AV}{l:List α}{j:Nat}(h:j<l.length):(l.take j).map f++[f l[j]]=(l.take (j+1)).map f:=WK
theorem yC(l:List AY)(i k:Nat)(h:i<k)(hl:i<l.length):qZ l i k=[.Y (fR l i k), .Y (l[i].af.map Row.C)]:=by unfold qZ;rw[getElem?_eq_getElem hl];simp only[if_pos h]
theorem sK(l:List AY)(i k:Nat)(h:¬i<k):qZ l i k=[.Y (fR l i k)]:=by unfold qZ;split<;>simp[h]
def Lt(l:List AY)(i:Nat)(hl:l.length<=1048576)(hr:∀t∈l,t.af.length<=1048576)(v:∀t∈l,∀r∈t.af,r.aq.length<=1048576):
  AQ prog 20 [Tbls.C l] ⟨[],[]⟩ (λe H=>e = .ret (.Y 0 2 l.length 0 l.length)/\H=⟨[],qZ l i l.length⟩):=by
 refine cK [2] func20 ?_;refine .go ?_;change AB _ _ _ _ _ _ _;refine bY 3 rfl (kE (z:=2) rfl rfl rfl) ?_;refine FL (λn s H=>∃k:Nat,n=l.length-k/\k<=l.length/\H=⟨[],qZ l i k⟩/\s=[(11, .int .i64 k),(10, .int .i64 l.length),(9,Tbls.C l),(3, .Y 0 2 k 0 k)])
  (s0:=[(11, .int .i64 (0:Nat)),(10, .int .i64 l.length),(9,Tbls.C l),(3, .Y 0 2 0 0 0)])
  Z0 ⟨0,rfl,zero_le _,(by rw[sK l i 0 om];unfold fR;split<;>rfl),rfl⟩ ?_
 rintro n s H ⟨k,rfl,hk,rfl,rfl⟩;by_cases h1:k<l.length
 ·have d1:=ltT h1;have x1:=aU (f:=AY.C) h1;have a1:=hr _ (getElem_mem h1);have hpl:=Ls l i k hk;have g:=JS l i k h1;rcases Nat.lt_trichotomy i k with hik|hik|hik
  ·rw[yC l i k hik om];refine .go ?_;change AB _ _ _ _ _ _ _;refine f8 0 1 rfl rfl (kE (z:=4) rfl rfl rfl) rfl ?_;refine AB.loop (λn s H=>∃j:Nat,n=l[k].af.length-j/\j<=l[k].af.length/\H=⟨[.cells [.str l[k].name, .Y 2 4 j 0 j]],[.Y (fR l i k), .Y (l[i].af.map Row.C)]++[.Y ((l[k].af.take j).map Row.C)]⟩/\
    s=[(20, .int .i64 j),(19, .int .i64 l[k].af.length),(18, .slice (l[k].af.map Row.C) .no),(11, .int .i64 k),(10, .int .i64 l.length),(9,Tbls.C l),(3, .Y 0 2 k 0 k),(5, .ptr 0 0)])
    (s0:=[(20, .int .i64 (0:Nat)),(19, .int .i64 l[k].af.length),(18, .slice (l[k].af.map Row.C) .no),(11, .int .i64 k),(10, .int .i64 l.length),(9,Tbls.C l),(3, .Y 0 2 k 0 k),(5, .ptr 0 0)])
    Z0 ⟨0,rfl,zero_le _,rfl,rfl⟩ ?_
   rintro n s H ⟨j,rfl,hj,rfl,rfl⟩;have c:((l[k].af.take j).map Row.C).length=j:=Wh
   by_cases h2:j<l[k].af.length
   ·have w:=ltT h2;have y:=aU (f:=Row.C) h2;have ht:=SD l[k].af[j] (v _ (getElem_mem h1) _ (getElem_mem h2))
    repeat' first|refine .s1 ?_|(refine .q ?_ ?_<;>intro O)|refine aH ht ?_|refine eI (m:=j+1) (hb':= by omega) c ?_|fail
    refine⟨l[k].af.length-(j+1),om,[(20, .int .i64 ((j+1:Nat):Int)),(19, .int .i64 l[k].af.length),(18, .slice (l[k].af.map Row.C) .no),(11, .int .i64 k),(10, .int .i64 l.length),(9,Tbls.C l),(3, .Y 0 2 k 0 k),(5, .ptr 0 0)],
     Z0,XY, ?_,j+1,rfl,om, ?_,rfl⟩
    ·have b:=jU (a:=1) (n:=2+1) l i k om;have p:=gL 1 (2+1) (l[k].af.take j);simp[-map_take,aQ,aL,Ob.aa,Tok.aa,aE,AV.aa,oI,b,p,dE,gL]
    ·rw[<-GZ h2];rfl
   ·have w:=ltF h2;have h:j=l[k].af.length:=om
    subst h;have u:=c;have d:(((l[k].af.take l[k].af.length).map Row.C).take l[k].af.length).drop 0=l[k].af.map Row.C:=WS
    repeat' first|refine f8 0 1 rfl rfl ((b6 rfl u rfl).trans (AJ.a6 (AC.no (AA.eq d)))) rfl ?_|refine .s1 ?_|(refine .q ?_ ?_<;>intro O)|refine eI (m:=k+1) (hb':= by omega) hpl ?_|fail
    refine⟨l.length-(k+1),om,[(11, .int .i64 ((k+1:Nat):Int)),(10, .int .i64 l.length),(9,Tbls.C l),(3, .Y 0 2 (k+1) 0 (k+1))],0,2,zero_le _,Wa,
     Z0,Xc,rfl, ?_,k+1,rfl,om, ?_,rfl⟩
    ·have b:=jU (a:=0) (n:=2) l i (k+1) om;rw[g,if_neg om]at b;have o:∀L:List Row,aE 0 2 (L.map Row.C)=true:=λL=>gL 0 2 L
     simp[-map_take,aL,Tok.aa,o];exact b
    ·rw[yC l i (k+1) om om,g,if_neg om];rfl
  ·rw[sK l i k om];refine .go ?_;change AB _ _ _ _ _ _ _;refine f8 0 1 rfl rfl (kE (z:=4) rfl rfl rfl) rfl ?_;refine AB.loop (λn s H=>∃j:Nat,n=l[k].af.length-j/\j<=l[k].af.length/\H=⟨[.cells [.str l[k].name, .Y 1 4 j 0 j]],[.Y (fR l i k)]++[.Y ((l[k].af.take j).map Row.C)]⟩/\
    s=[(20, .int .i64 j),(19, .int .i64 l[k].af.length),(18, .slice (l[k].af.map Row.C) .no),(11, .int .i64 k),(10, .int .i64 l.length),(9,Tbls.C l),(3, .Y 0 2 k 0 k),(5, .ptr 0 0)])
    (s0:=[(20, .int .i64 (0:Nat)),(19, .int .i64 l[k].af.length),(18, .slice (l[k].af.map Row.C) .no),(11, .int .i64 k),(10, .int .i64 l.length),(9,Tbls.C l),(3, .Y 0 2 k 0 k),(5, .ptr 0 0)])
    Z0 ⟨0,rfl,zero_le _,rfl,rfl⟩ ?_
   rintro n s H ⟨j,rfl,hj,rfl,rfl⟩;have c:((l[k].af.take j).map Row.C).length=j:=Wh
   by_cases h2:j<l[k].af.length
   ·have w:=ltT h2;have y:=aU (f:=Row.C) h2;have ht:=SD l[k].af[j] (v _ (getElem_mem h1) _ (getElem_mem h2))
    repeat' first|refine .s1 ?_|(refine .q ?_ ?_<;>intro O)|refine aH ht ?_|refine eI (m:=j+1) (hb':= by omega) c ?_|fail
    refine⟨l[k].af.length-(j+1),om,[(20, .int .i64 ((j+1:Nat):Int)),(19, .int .i64 l[k].af.length),(18, .slice (l[k].af.map Row.C) .no),(11, .int .i64 k),(10, .int .i64 l.length),(9,Tbls.C l),(3, .Y 0 2 k 0 k),(5, .ptr 0 0)],
     Z0,XY, ?_,j+1,rfl,om, ?_,rfl⟩
    ·have b:=jU (a:=1) (n:=1+1) l i k om;have p:=gL 1 (1+1) (l[k].af.take j);simp[-map_take,aQ,aL,Ob.aa,Tok.aa,aE,AV.aa,oI,b,p,dE,gL]
    ·rw[<-GZ h2];rfl
   ·have w:=ltF h2;have h:j=l[k].af.length:=om
    subst h;have u:=c;have d:(((l[k].af.take l[k].af.length).map Row.C).take l[k].af.length).drop 0=l[k].af.map Row.C:=WS
    repeat' first|fail|refine .s1 ?_|(refine .q ?_ ?_<;>intro O)|refine eI (m:=k+1) (hb':= by omega) hpl ?_|fail
    refine⟨l.length-(k+1),om,[(11, .int .i64 ((k+1:Nat):Int)),(10, .int .i64 l.length),(9,Tbls.C l),(3, .Y 0 2 (k+1) 0 (k+1))],0,2,zero_le _,Wa,
     Z0,Xc,rfl, ?_,k+1,rfl,om, ?_,rfl⟩
    ·have b:=jU (a:=0) (n:=2) l i (k+1) om;rw[g,if_pos hik]at b;have o:∀L:List Row,aE 0 2 (L.map Row.C)=true:=λL=>gL 0 2 L
     simp[-map_take,aL,Tok.aa,o];exact b
    ·rw[yC l i (k+1) om om,g,if_pos hik];subst hik;rw[List.take_length];rfl
  ·rw[sK l i k om];refine .go ?_;change AB _ _ _ _ _ _ _;refine f8 0 1 rfl rfl (kE (z:=4) rfl rfl rfl) rfl ?_;refine AB.loop (λn s H=>∃j:Nat,n=l[k].af.length-j/\j<=l[k].af.length/\H=⟨[.cells [.str l[k].name, .Y 1 4 j 0 j]],[.Y (fR l i k)]++[.Y ((l[k].af.take j).map Row.C)]⟩/\
    s=[(20, .int .i64 j),(19, .int .i64 l[k].af.length),(18, .slice (l[k].af.map Row.C) .no),(11, .int .i64 k),(10, .int .i64 l.length),(9,Tbls.C l),(3, .Y 0 2 k 0 k),(5, .ptr 0 0)])
    (s0:=[(20, .int .i64 (0:Nat)),(19, .int .i64 l[k].af.length),(18, .slice (l[k].af.map Row.C) .no),(11, .int .i64 k),(10, .int .i64 l.length),(9,Tbls.C l),(3, .Y 0 2 k 0 k),(5, .ptr 0 0)])
    Z0 ⟨0,rfl,zero_le _,rfl,rfl⟩ ?_
   rintro n s H ⟨j,rfl,hj,rfl,rfl⟩;have c:((l[k].af.take j).map Row.C).length=j:=Wh
   by_cases h2:j<l[k].af.length
   ·have w:=ltT h2;have y:=aU (f:=Row.C) h2;have ht:=SD l[k].af[j] (v _ (getElem_mem h1) _ (getElem_mem h2))
    repeat' first|refine .s1 ?_|(refine .q ?_ ?_<;>intro O)|refine aH ht ?_|refine eI (m:=j+1) (hb':= by omega) c ?_|fail
    refine⟨l[k].af.length-(j+1),om,[(20, .int .i64 ((j+1:Nat):Int)),(19, .int .i64 l[k].af.length),(18, .slice (l[k].af.map Row.C) .no),(11, .int .i64 k),(10, .int .i64 l.length),(9,Tbls.C l),(3, .Y 0 2 k 0 k),(5, .ptr 0 0)],
     Z0,XY, ?_,j+1,rfl,om, ?_,rfl⟩
    ·have b:=jU (a:=1) (n:=1+1) l i k om;have p:=gL 1 (1+1) (l[k].af.take j);simp[-map_take,aQ,aL,Ob.aa,Tok.aa,aE,AV.aa,oI,b,p,dE,gL]
    ·rw[<-GZ h2];rfl
   ·have w:=ltF h2;have h:j=l[k].af.length:=om
    subst h;have u:=c;have d:(((l[k].af.take l[k].af.length).map Row.C).take l[k].af.length).drop 0=l[k].af.map Row.C:=WS
    repeat' first|refine f8 0 1 rfl rfl ((b6 rfl u rfl).trans (AJ.a6 (AC.no (AA.eq d)))) rfl ?_|refine .s1 ?_|(refine .q ?_ ?_<;>intro O)|refine eI (m:=k+1) (hb':= by omega) hpl ?_|fail
    refine⟨l.length-(k+1),om,[(11, .int .i64 ((k+1:Nat):Int)),(10, .int .i64 l.length),(9,Tbls.C l),(3, .Y 0 2 (k+1) 0 (k+1))],0,1,zero_le _,Wa,
     Z0,Xc,rfl, ?_,k+1,rfl,om, ?_,rfl⟩
    ·have b:=jU (a:=0) (n:=1) l i (k+1) om;rw[g,if_neg om]at b;have o:∀L:List Row,aE 0 1 (L.map Row.C)=true:=λL=>gL 0 1 L
     simp[-map_take,aL,Tok.aa,o];exact b
    ·rw[sK l i (k+1) om,g,if_neg om];rfl
 ·have d1:=ltF h1;have x:k=l.length:=om
  subst x;refine .go ?_;exact⟨rfl,rfl⟩
theorem uJ(l:List AY):qZ l l.length l.length=[.Y (l.map AY.C)]:=by rw[sK l _ _ om];unfold fR;simp
theorem Dk(l:List AY)(i:Nat)(h:i<l.length):qZ l i l.length=[.Y ((l.map AY.C).set i (qY l[i])), .Y (l[i].af.map Row.C)]:=by rw[yC l _ _ h h];unfold fR;rw[getElem?_eq_getElem h];simp
def OK(l:List AY)(hl:l.length<=1048576)(hr:∀t∈l,t.af.length<=1048576)(a:∀t∈l,∀r∈t.af,r.aq.length<=1048576):AN prog 20 [Tbls.C l] (Tbls.C l):=by refine jI (Tbls.K l) Zi (AQ.mono (Lt l l.length hl hr a) ?_);rintro e H ⟨rfl,rfl⟩;rw[uJ];refine⟨_,_,rfl,(b6 rfl Wa rfl).trans (AJ.a6 (AC.no (AA.eq ?_)))⟩;rw[drop_zero,take_of_length_le Wa]
def qI{α:Type}(p:α->Bool):List α->Option Nat
 |[]=>none
 |x::l=>if p x then some 0 else (qI p l).map (· +1)
def mR{α:Type}(p:α->Bool):∀(l:List α) (k:Nat),(bE p l k = -1/\qI p l=none)\/∃(j:Nat) (h:j<l.length),bE p l k=((k+j:Nat):Int)/\qI p l=some j/\p l[j]=true
 |[],k => .inl ⟨rfl,rfl⟩
 |x::l,k=>by
  by_cases e:p x=true
  ·exact .inr ⟨0,Wa,by simp[bE,e],by simp[qI,e],Yv⟩
  ·rcases mR p l (k+1) with⟨h1,h2⟩|⟨j,h,h1,h2,h3⟩
   ·exact .inl ⟨by simp[bE,e,h1],YZ⟩
   ·exact .inr ⟨j+1,Wp,by simp[bE,e,h1];omega,YZ,by simpa using h3⟩
def zY(name a:AF):∀(l:List AY) (k:Nat),(dY name a l k=(-1, -1)/\qI (λt:AY=>t.name==name) l=none)\/
  ∃(j:Nat) (h:j<l.length),dY name a l k=(((k+j:Nat):Int),bE (λr:Row=>r.key==a) l[j].af 0)/\qI (λt:AY=>t.name==name) l=some j
 |[],k => .inl ⟨rfl,rfl⟩
 |x::l,k=>by
  by_cases e:(x.name==name)=true
  ·exact .inr ⟨0,Wa,by simp only[dY,if_pos e];simp,by simp[qI,e]⟩
  ·rcases zY name a l (k+1) with⟨h1,h2⟩|⟨j,h,h1,h2⟩
   ·exact .inl ⟨by simp only[dY,if_neg e,h1],YZ⟩
   ·refine .inr ⟨j+1,Wp, ?_,YZ⟩;simp only[dY,if_neg e,h1];grind
def yT{α:Type}(l:List α)(i:Nat)(f:α->α):List α:=
 match l[i]? with
 |some x=>l.set i (f x)
 |none=>l
def sL{l:List α}{i:Nat}(h:i<l.length)(f:α->α):yT l i f=l.set i (f l[i]):=by unfold yT;rw[getElem?_eq_getElem h]
def jC(rows:List Row)(r:Row):List Row:=
 match qI (λx:Row=>x.key==r.key) rows with
 |none=>rows++[r]
 |some k=>rows.set k r
def jD(rows:List Row)(key:AF):List Row:=
 match qI (λx:Row=>x.key==key) rows with
 |none=>rows
 |some k=>rows.take k++rows.drop (k+1)
def sM(l:List AY)(name:AF)(r:Row):List AY:=
 match qI (λt:AY=>t.name==name) l with
 |none=>l++[⟨name,[r]⟩]
 |some i=>yT l i λt=>⟨t.name,jC t.af r⟩
def w5(l:List AY)(name key:AF):List AY:=
 match qI (λt:AY=>t.name==name) l with
 |none=>l
 |some i=>yT l i λt=>⟨t.name,jD t.af key⟩
def OL{t:Tk}:AA [.agg [.str name, .slice xs t]] [.agg [.str name, .slice xs .no]]:=AA.cons (AC.agg (AA.cons (aG _) (AA.cons (AC.no (aD _)) (aD _)))) (aD _)
theorem put(l:List AY)(name:AF)(r:Row)(hl:l.length<=1048576)(hr:∀t∈l,t.af.length<=1048576)(o:∀t∈l,∀r∈t.af,r.aq.length<=1048576)(u:r.aq.length<=1048576):
  AN prog 252 [Tbls.C l, .str name,r.C] (Tbls.C (sM l name r)):=by
 refine jI (Tbls.K _) YV (cK [6] func252 ?_);have hp:=yS l name r.key om (λt ht=>by have:=hr t ht;omega);have j:=SD r u;have d:aB [Tbls.C l]=true:=Zi
 rcases zY name r.key l 0 with⟨h1,h2⟩|⟨i,X,h1,h2⟩
 ·rw[h1]at hp;have hn:=Lt l l.length hl hr o;rw[uJ]at hn;have g:(l.map AY.C).length=l.length:=by simp
  have b:aL 0 1 [.Y (l.map AY.C)]=true:=by simp[aL,Tok.aa,fG]
  repeat' first|refine dB ?_|refine .s1 ?_|(refine .q ?_ ?_<;>intro O)|refine jW rfl rfl hn d (aD _) rfl b ?_|refine aH hp ?_|refine aH j ?_|refine eI (m:=l.length+1) (hb':= by omega) g ?_|fail
  refine⟨_,_,rfl,(b6 rfl Wa rfl).trans (AJ.a6 (AC.no ?_))⟩;have e:sM l name r=l++[⟨name,[r]⟩]:=by unfold sM;rw[h2]
  rw[e,drop_zero,take_of_length_le Wa,map_append];exact QH (aD _) OL
 ·rw[h1]at hp;simp only[zero_add]at hp;have hn:=Lt l i hl hr o;rw[Dk l i X]at hn;have g:((l.map AY.C).set i (qY l[i])).length=l.length:=by simp
  have b:aL 0 2 [.Y ((l.map AY.C).set i (qY l[i])), .Y (l[i].af.map Row.C)]=true:=by
   have h3:=jU (a:=0) (n:=2) l i l.length om;have h4:fR l i l.length=(l.map AY.C).set i (qY l[i]):=by unfold fR;rw[getElem?_eq_getElem X];simp
   rw[h4]at h3;simp[aL,Tok.aa,gL,h3]
  have Y:((l.map AY.C).set i (qY l[i]))[i]? =some (qY l[i]):=by simp[X]
  have v:i<l.length-0:=X;have p:(l[i].af.map Row.C).length=l[i].af.length:=Wa
  have y:=hr _ (getElem_mem X);have d0:decide ((i:Int)<0)=false:=Wa
  have e:sM l name r=l.set i ⟨l[i].name,jC l[i].af r⟩:=by unfold sM;rw[h2];exact sL X _
  rcases mR (λx:Row=>x.key==r.key) l[i].af 0 with⟨h3,h4⟩|⟨k,hk,h3,h4,h5⟩
  ·rw[h3]at hp;repeat' first|refine dB ?_|refine .s1 ?_|(refine .q ?_ ?_<;>intro O)|refine jW rfl rfl hn d (aD _) rfl b ?_|refine aH hp ?_|refine aH j ?_|refine fM ?_|refine j8 ?_|refine fF ?_|refine jH ?_|refine eI (m:=l[i].af.length+1) (hb':= by omega) p ?_|refine aX (agg:=true) (hn:=g) (he:=Y) ?_|fail
   have h:jC l[i].af r=l[i].af++[r]:=by unfold jC;rw[h4]
   refine⟨_,_,rfl,(cU (k:=0) (i:=i) (c:=1) rfl Zf rfl (b6 rfl Wa rfl) rfl rfl).trans ((b6 rfl Wa rfl).trans (AJ.a6 (AC.no (AA.eq ?_))))⟩;rw[e,h,drop_zero,take_of_length_le Wa,set_set,set_set,map_set];congr 1;simp only[AY.C,set_cons_succ,set_cons_zero,drop_zero,map_append,List.map_cons,List.map_nil];rw[take_of_length_le Wa];rfl
  ·rw[h3]at hp;simp only[zero_add]at hp;have w:k<l[i].af.length-0:=hk;have z:=aU (f:=Row.C) hk;have d1:decide ((k:Int)<0)=false:=by simp
   have h:jC l[i].af r=l[i].af.set k r:=by unfold jC;rw[h4]
   repeat' first|refine dB ?_|refine .s1 ?_|(refine .q ?_ ?_<;>intro O)|refine jW rfl rfl hn d (aD _) rfl b ?_|refine aH hp ?_|refine aH j ?_|refine fM ?_|refine j8 ?_|refine fF ?_|refine jH ?_|refine aX (agg:=true) (hn:=p) (he:=z) ?_|fail
   refine⟨_,_,rfl,(cU (k:=0) (i:=i) (c:=1) rfl Y rfl (b6 rfl Wa rfl) rfl rfl).trans ((b6 rfl Wa rfl).trans (AJ.a6 (AC.no (AA.eq ?_))))⟩;rw[e,h,drop_zero,take_of_length_le Wa,set_set,map_set];congr 1;simp only[AY.C,set_cons_succ,set_cons_zero,drop_zero,map_set];rw[take_of_length_le Wa];rfl
def UO:AV := .agg [.str [], .str [], .slice [] .nil, .bool false]
def G0(xs:List AV)(i:Nat):List AV:=(xs.take i++xs.drop (i+1)++xs.drop (xs.length-1)).take (xs.length-1)++[UO]++(xs.take i++xs.drop (i+1)++xs.drop (xs.length-1)).drop xs.length
def Nf(xs:List AV)(i:Nat)(h:i<xs.length):(G0 xs i).take (xs.length-1)=xs.take i++xs.drop (i+1):=by grind[G0]
theorem w8:∀(xs ys:List AV),aB (xs++ys)=(aB xs&&aB ys)
 |[],ys=>by simp[aB]
 |x::xs,ys=>by rw[List.cons_append,aB,aB,w8 xs ys,Bool.and_assoc]
theorem ER:∀(xs:List AV),aB xs=true↔∀x∈xs,x.K=true
 |[]=>by simp[aB]
 |x::xs=>by simp[aB,ER xs]
def JT(xs:List AV)(i:Nat)(h:aB xs=true):aB (G0 xs i)=true:=by
 rw[ER]at h ⊢;intro x Y;unfold G0 at Y;simp only[List.mem_append,List.mem_singleton]at Y;rcases Y with (Y|rfl)|Y
 ·grind
 ·rfl
 ·grind
def aAm(xs:List AV)(n i:Nat)(hn:xs.length=n)(X:i<n)(hb:n<=1048576):
  AQ prog 253 [.Y 0 4 n 0 n, .int .i64 i, .int .i64 ((i+1:Nat):Int)] ⟨[],[.Y xs]⟩ (λe H=>e = .ret (.Y 0 4 n 0 (n-1))/\H=⟨[],[.Y (G0 xs i)]⟩):=by
 refine cK [6] func253 ?_;have b:((i:Int)==((i+1:Nat):Int))=false:=Wh
 have a:i+(n-(i+1))=n-1:=om
 repeat' first|refine .seq ?_|refine .rg ?_|refine .rd ?_|refine .block ?_|refine .scope ?_|refine .skip ?_|refine .label ?_|refine .exit ?_|refine .ret ?_|refine .ct ?_|refine .cf ?_|refine .cy ?_|refine .cn ?_|(refine .cond rfl ?_ ?_<;>intro O)|refine cS ?_|refine .nl ?_|refine .dd ?_|refine .ys ?_|refine .no ?_|(refine fL rfl ?_ ?_<;>intro O)|refine .lb ?_|refine .ln ?_|refine .ls ?_|refine .pv ?_|refine .ix ?_|refine .pt ?_|refine .pf ?_|refine .bx ?_|refine .al ?_|refine .st ?_|refine .ad ?_|refine .sb ?_|refine .mf ?_|refine .cl ?_|refine .cw ?_|refine .ck ?_|refine QJ i (i+1) n rfl rfl rfl rfl rfl rfl rfl rfl rfl rfl om om om ?_|refine jH ?_|refine FK 0 i (rl:=0) (rh:=i) rfl rfl rfl rfl rfl rfl rfl rfl rfl (zero_le _) om rfl (zero_add _) ?_|refine FK (i+1) n (rl:=i+1) (rh:=n) rfl rfl rfl rfl rfl rfl rfl rfl rfl om om (zero_add _) (zero_add _) ?_|refine QK (i:=i) (j:=i+1) (m:=n-1) rfl rfl rfl rfl rfl rfl rfl rfl hn om om a rfl ?_|refine FK (n-1) n (rl:=n-1) (rh:=n) rfl rfl rfl rfl rfl rfl rfl rfl rfl om om (zero_add _) (zero_add _) ?_|refine QL rfl rfl rfl rfl rfl rfl rfl Wh rfl ?_|fail
 refine⟨rfl, ?_⟩;subst hn;have h1:xs.length-(xs.length-1)=1:=om
 dsimp only;rw[h1];rfl
theorem cut(l:List AY)(name b:AF)(hl:l.length<=1048576)(hr:∀t∈l,t.af.length<=1048576)(h:∀t∈l,∀r∈t.af,r.aq.length<=1048576):
  AN prog 186 [Tbls.C l, .str name, .str b] (Tbls.C (w5 l name b)):=by
 refine jI (Tbls.K _) XW (cK [6] func186 ?_);have hp:=yS l name b om (λt ht=>by have:=hr t ht;omega);have f:aB [Tbls.C l]=true:=Zi
 rcases zY name b l 0 with⟨h1,h2⟩|⟨i,X,h1,h2⟩
 ·rw[h1]at hp;have hn:=Lt l l.length hl hr h;rw[uJ]at hn;have d:aL 0 1 [.Y (l.map AY.C)]=true:=by simp[aL,Tok.aa,fG]
  have e:w5 l name b=l:=by unfold w5;rw[h2]
  rw[e];repeat' first|refine .s1 ?_|(refine .q ?_ ?_<;>intro O)|refine jW rfl rfl hn f (aD _) rfl d ?_|refine aH hp ?_|fail
  refine⟨_,_,rfl,(b6 rfl Wa rfl).trans (AJ.a6 (AC.no (AA.eq ?_)))⟩;rw[drop_zero,take_of_length_le Wa]
 ·rw[h1]at hp;simp only[zero_add]at hp;have hn:=Lt l i hl hr h;rw[Dk l i X]at hn;have v:((l.map AY.C).set i (qY l[i])).length=l.length:=by simp
  have d:aL 0 2 [.Y ((l.map AY.C).set i (qY l[i])), .Y (l[i].af.map Row.C)]=true:=by
   have h3:=jU (a:=0) (n:=2) l i l.length om;have h4:fR l i l.length=(l.map AY.C).set i (qY l[i]):=by unfold fR;rw[getElem?_eq_getElem X];simp
   rw[h4]at h3;simp[aL,Tok.aa,gL,h3]
  have Y:((l.map AY.C).set i (qY l[i]))[i]? =some (qY l[i]):=by simp[X]
  have m:(l[i].af.map Row.C).length=l[i].af.length:=Wa
  have w:=hr _ (getElem_mem X);have e:w5 l name b=l.set i ⟨l[i].name,jD l[i].af b⟩:=by unfold w5;rw[h2];exact sL X _
  rcases mR (λx:Row=>x.key==b) l[i].af 0 with⟨h3,h4⟩|⟨k,hk,h3,h4,h5⟩
  ·rw[h3]at hp;have g:jD l[i].af b=l[i].af:=by unfold jD;rw[h4]
   repeat' first|refine .s1 ?_|(refine .q ?_ ?_<;>intro O)|refine jW rfl rfl hn f (aD _) rfl d ?_|refine aH hp ?_|refine fM ?_|refine j8 ?_|refine fF ?_|refine jH ?_|fail
   refine⟨_,_,rfl,(cU (k:=0) (i:=i) (c:=1) rfl Y rfl (b6 rfl Wa rfl) rfl rfl).trans ((b6 rfl Wa rfl).trans (AJ.a6 (AC.no (AA.eq ?_))))⟩;rw[e,g,drop_zero,take_of_length_le Wa,set_set,map_set];congr 1;simp only[AY.C,set_cons_succ,set_cons_zero,drop_zero];rw[take_of_length_le Wa]
  ·rw[h3]at hp;simp only[zero_add]at hp;have g:jD l[i].af b=l[i].af.take k++l[i].af.drop (k+1):=by unfold jD;rw[h4]
   have z:decide ((0:Int)<=(k:Int))=true:=Wa
   have j:=aAm (l[i].af.map Row.C) l[i].af.length k m hk w;have p:aB (l[i].af.map Row.C)=true:=mQ _;have y:=JT (l[i].af.map Row.C) k p;have u:(G0 (l[i].af.map Row.C) k).length=l[i].af.length:=by unfold G0;simp;omega
   repeat' first|refine .s1 ?_|(refine .q ?_ ?_<;>intro O)|refine jW rfl rfl hn f (aD _) rfl d ?_|refine aH hp ?_|refine fM ?_|refine j8 ?_|refine fF ?_|refine jH ?_|refine Ja 1 j p y rfl rfl ?_|refine aX (agg:=true) (hn:=v) (he:=Y) ?_|fail
   have o:=Nf (l[i].af.map Row.C) k (by simpa using hk);rw[m]at o;refine⟨_,_,rfl,(cU (k:=0) (i:=i) (c:=1) rfl Zf rfl (b6 rfl u rfl) rfl rfl).trans ((b6 rfl Wa rfl).trans (AJ.a6 (AC.no (AA.eq ?_))))⟩;rw[e,g,drop_zero,take_of_length_le Wa,set_set,set_set,map_set];congr 1;simp only[AY.C,set_cons_succ,set_cons_zero,drop_zero,o,map_append,map_take,List.map_drop]
def UP(l:List AG)(h:l.length<=1048576):AQ prog 54 [.slice (l.map AG.C) .no] ⟨[],[]⟩ (λe H=>e = .ret (.Y 0 6 l.length 0 l.length)/\H=⟨[],[.Y (l.map AG.C)]⟩):=by
 have hl:(l.map AG.C).length=l.length:=List.length_map ..
 refine O9 (cK [2] func54 ?_);refine tC 0 rfl (λhn=> ?_) ?_
 ·have a:l=[]:=by cases l with|nil=>rfl|cons _ _=>cases hn
  subst a
  repeat' first|refine .s1 ?_|(refine .q ?_ ?_<;>intro O)|refine I4 rfl rfl rfl ?_|fail
  exact⟨_,rfl,kE rfl rfl rfl⟩
 ·repeat' first|refine .s1 ?_|(refine .q ?_ ?_<;>intro O)|refine Fw rfl rfl rfl ?_|refine dH (m:=l.length) (zX l) hl ?_|fail
  exact⟨_,rfl,eU _ _⟩
def SG(l:List AG)(f:FuncId)(c:AV)(p:AG->Bool)(hl:l.length<=9223372036854775807)(a:c.K=true)(hf:∀x∈l,AN prog f [x.C,c] (.bool (p x))):
  AN prog 301 [.slice (l.map AG.C) .no, .fn (.func f) [] [c]] (.int .i64 (bE p l 0)):=by
 refine pEn 4 func301 (ha:=by simp[AV.K,aB,aT,a]) ?_;refine .go ?_;change AB _ _ _ _ _ _ _;refine AB.loop (λn s H=>∃k:Nat,n=l.length-k/\k<=l.length/\bE p l 0=bE p (l.drop k) k/\H=⟨[],[]⟩/\
  s=[(8, .int .i64 k),(7, .int .i64 l.length),(0, .slice (l.map AG.C) .no),(1, .fn (.func f) [] [c])])
  (s0:=[(8, .int .i64 (0:Nat)),(7, .int .i64 l.length),(0, .slice (l.map AG.C) .no),(1, .fn (.func f) [] [c])])
  Z0 ⟨0,rfl,zero_le _,rfl,rfl,rfl⟩ ?_
 rintro n s H ⟨k,rfl,hk,hp,rfl,rfl⟩;by_cases h1:k<l.length
 ·have d:=ltT h1;have x1:=aU (f:=AG.C) h1;have b:=hf l[k] (getElem_mem h1)
  repeat' first|refine .s1 ?_|(refine .q ?_ ?_<;>intro O)|refine I3 rfl rfl b (aD _) ?_|fail
  ·refine aP rfl (AC.eq ?_);rw[hp,cP h1,if_pos O]
  ·refine⟨l.length-(k+1),om,[(8, .int .i64 ((k+1:Nat):Int)),(7, .int .i64 l.length),(0, .slice (l.map AG.C) .no),(1, .fn (.func f) [] [c])],
    Z0,by simp[aM,AV.aa,aE,dE,aF _ _ _ a],rfl,k+1,rfl,om,Xt,rfl,rfl⟩
 ·have d:=ltF h1;refine .go ?_;refine aP rfl (AC.eq ?_);rw[hp,drop_eq_nil_of_le om,bE]
def aCr(m:AG)(a:AF):AN prog 302 [m.C, .ab (.str a)] (.bool (m.name==a)):=by refine pEn 3 func302 (ha:=by simp[aB,AG.K,AV.K]) ?_;refine .go ?_;exact bW
def oV(l:List AG)(name:AF)(v:AH):List AG:=
 match qI (λm:AG=>m.name==name) l with
 |none=>l++[.mk name v]
 |some i=>yT l i λm => .mk m.name v
def SH{H:St}{z n:Nat}(hT:H.T[k]? =some (.Y xs))(hn:xs.length=n)(O:aB xs=true):A1 H (.Y k z n 0 n) (.slice xs .no):=by
 have h:=A1.Y (lo:=0) (X:=n) (z:=z) hT hn (Al.K (H:=H) O)
 rwa [drop_zero,take_of_length_le om]at h
theorem set(l:List AG)(name:AF)(v:AH)(hl:l.length<=1048576):AN prog 251 [.slice (l.map AG.C) .no, .str name,v.C] (.slice ((oV l name v).map AG.C) .no):=by
 refine jI (by simp[AV.K,aT]) (by simp[aB,AV.K,aT,AH.K]) (cK [6] func251 ?_);have hn:=UP l hl;have c:aB [.slice (l.map AG.C) .no]=true:=by simp[aB,AV.K,aT]
 have d:aL 0 1 [.Y (l.map AG.C)]=true:=by simp[aL,Tok.aa,dE]
 have g:(l.map AG.C).length=l.length:=Wa
 have a:=SG l 302 (.ab (.str name)) (λm=>m.name==name) om rfl (λx _=>aCr x name);have b:Al ⟨[],[.Y (l.map AG.C)]⟩ [.Y 0 6 l.length 0 l.length, .fn (.func 302) [] [.ab (.str name)]] [.slice (l.map AG.C) .no, .fn (.func 302) [] [.ab (.str name)]]:=
  Al.cons (SH rfl g (aT l)) (Al.cons (A1.K rfl) Al.nil)
 rcases mR (λm:AG=>m.name==name) l 0 with⟨h3,h4⟩|⟨k,hk,h3,h4,h5⟩
 ·rw[h3]at a;have e:oV l name v=l++[.mk name v]:=by unfold oV;rw[h4]
  repeat' first|refine dB ?_|refine .s1 ?_|(refine .q ?_ ?_<;>intro O)|refine tA rfl rfl ?_|refine jW rfl rfl hn c (aD _) rfl d ?_|refine xO rfl a b rfl ?_|refine eI (m:=l.length+1) (hb':= by omega) g ?_|fail
  refine⟨_,_,rfl,(b6 rfl Wa rfl).trans (AJ.a6 (AC.no (AA.eq ?_)))⟩;rw[e,drop_zero,take_of_length_le Wa,map_append];rfl
 ·rw[h3]at a;simp only[zero_add]at a;have h:decide ((k:Int)<0)=false:=by simp
  have hlt:k<l.length-0:=hk;have x1:=aU (f:=AG.C) hk;have e:oV l name v=l.set k (.mk l[k].name v):=by unfold oV;rw[h4];exact sL hk _
  repeat' first|refine dB ?_|refine .s1 ?_|(refine .q ?_ ?_<;>intro O)|refine tA rfl rfl ?_|refine jW rfl rfl hn c (aD _) rfl d ?_|refine xO rfl a b rfl ?_|refine fM ?_|refine j8 ?_|refine fF ?_|refine jH ?_|refine aX (agg:=true) (hn:=g) (he:=x1) ?_|fail
  refine⟨_,_,rfl,(b6 rfl Wa rfl).trans (AJ.a6 (AC.no (AA.eq ?_)))⟩;rw[e,drop_zero,take_of_length_le Wa,map_set];rfl
end Go.Proofs.YtdodieljpcfpcaaGreatDoor
