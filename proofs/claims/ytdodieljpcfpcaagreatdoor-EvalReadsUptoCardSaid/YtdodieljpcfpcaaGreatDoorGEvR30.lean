/- Joined texts. -/
import Derived.Test.YtdodieljpcfpcaaGreatDoorGEvR27
set_option maxRecDepth 100000
set_option maxHeartbeats 16000000
set_option linter.all false
open List (append_nil getElem_mem length_append length_map map_nil mem_cons mem_singleton not_mem_nil take_length)
open Nat (le_refl le_succ_of_le le_trans zero_le)
open Bool (and_eq_true)
open Go Go.Av Go.Proofs.YtdodieljpcfpcaaGreatDoor Go.Proofs.Tryz
variable{name:AF}{st:AT}{m:Int}{j:Nat}{Q:Nat->Nat}{x y:Operand}{p:Prop}{ti:TI}{U:TypeId}
namespace Go.Proofs.YtdodieljpcfpcaaGreatDoor
open Go Go.Av Go.Proofs.Tryz
attribute [local irreducible] AB AD AN AQ Av.AS AZ
structure BS where
 s:AI
 d:AR
 at_:Int
 vars:List AG
 L:List AY
def BS.C(c:BS):AV := .agg [.slice (c.s.ah.map Ag.C) .no, .str c.s.query, .str c.s.ar, .slice (c.d.ops.map Aj.C) .no, .slice (c.d.ai.map Af.C) .no, .int .i64 c.at_, .slice (c.vars.map AG.C) .no,Tbls.C c.L]
theorem BS.K(c:BS):c.C.K=true:=by simp[BS.C,AV.K,aB,dS,mB,jX,aT,Tbls.K]
structure Ba(c:BS):Prop where
 hs:c.s.size<=1048576
 so:c.s.ok
 hd:c.d.size<=1048576
 dk:c.d.ok
 hv:aA AG.size c.vars<=1048576
 vo:∀m∈c.vars,m.v.ok
 hl:aA AY.size c.L<=1048576
 lo:∀t∈c.L,t.ok
structure OpOk(c:BS)(o:Aj)(env:List AG):Prop where
 mem:o∈c.d.ops
 served:A5 c.s
 loops:oR c.d=false
 bg:Am c.s c.d env
 O:Ai o.O 0
 cnt:zP c.s c.d o env c.L<=400
 ch:BV 4000 c.L
 cm:rL c.s=true
def Sj:Aj:=⟨0,[],[],[],[]⟩
theorem Ba.aq{c:BS}(h:Ba c):∀t∈c.L,∀r∈t.af,Bv r/\aA AG.size r.aq<=1048576:=λt ht r hr=>by
 have hz:=RP h.hl t ht r hr
 refine⟨λm a=> ?_,hz⟩
 have h1:=aN (size:=AG.size) a
 have h2:m.size=m.name.length+2+m.v.size:=rfl
 exact tR om (h.lo t ht r hr m a)
theorem Ba.bg{c:BS}(h:Ba c){o:Aj}(k:o∈c.d.ops):Am c.s c.d (GX c.s o.vars c.vars).1/\Ai o.O 0/\(∀p∈o.vars,p.d.ok)/\aA AO.size o.vars<=1048576:=by
 have r:=h.hd;have hs:=h.hs;have h1:=aN (size:=Aj.size) k;have h2:c.d.size=aA Aj.size c.d.ops+aA Af.size c.d.ai+3:=rfl;have h3:o.size=o.name.length+aA AO.size o.vars+aA AM.size o.ao+aA Sl.size o.O+6:=rfl;have a:=h.dk.1 o k;have b:∀e∈c.s.ah,e.params.length<=68719476736/\∀p∈e.params,Bj p:=λe he=>by
  have h1:=lP he;have h3:=aJ AO.au e.params;have h4:aA AO.size e.params<=e.size:=WA
  refine⟨om,λp hp=> ?_⟩;have g:=aN (size:=AO.size) hp;have i:=p.lens;exact⟨om,tR om ((h.so e he).2 p hp)⟩
 have l:=aJ AO.au o.vars;obtain⟨t,n⟩:=Pq c.s b o.vars (λp hp=>by
  have g:=aN (size:=AO.size) hp;have i:=p.lens;exact⟨om,tR om (a.1 p hp)⟩) c.vars (λm j=>by
  have g:=aN (size:=AG.size) j;have i:m.size=m.name.length+2+m.v.size:=rfl;have q:=h.hv;exact tR om (h.vo m j))
 refine⟨⟨h.hs,h.so,h.hd,λf hf=>(h.dk.2 f hf).2,om,λx Y=>(n x Y).2⟩,⟨om,λx Y=>⟨a.2.2 x Y, ?_⟩⟩,a.1,om⟩;have:=aN (size:=Sl.size) Y;omega
def kOp(c:BS)(h:Ba c):∃r:Aj×List AG×Bool,(r.2.2=true->OpOk c r.1 r.2.1)/\AN prog 4 [c.C] (.tup [r.1.C, .slice (r.2.1.map AG.C) .no, .bool r.2.2]):=by
 have a1:=h.aq;have v:=λo ho=>Ba.bg h (o:=o) ho
 obtain⟨hs,so,hd,dk,hv,vo,hl,lo⟩:=h;obtain⟨s,d,at_,f,L⟩:=c;dsimp only at hs so hd dk hv vo hl lo a1 v;have g:=BS.K ⟨s,d,at_,f,L⟩;unfold BS.C at g ⊢;dsimp only at g ⊢;have q1:=RS s d hs hd;have q2:=RO L (by have:=RQ L;omega) (λt ht r hr=>(a1 t ht r hr).2);have q3:=z7 (.mk 0 0 [] [] f) WE;have ew:=x6 (m:=f);have wn:AC (.tup [.agg [.int .i64 0, .str [], .slice [] .nil, .slice [] .nil, .slice [] .nil], .slice [] .nil, .bool false]) (.tup [Sj.C, .slice (([]:List AG).map AG.C) .no, .bool false]):=
  AC.tup (AA.cons (AC.agg (AA.cons (aG _) (AA.cons (aG _) (AA.cons (AC.no (aD _)) (AA.cons (AC.no (aD _)) (AA.cons (AC.no (aD _)) (aD _))))))) (AA.cons (AC.no (aD _)) (aD _)))
 have a0:(AV.tup [Sj.C, .slice (([]:List AG).map AG.C) .no, .bool false]).K=true:=by simp[AV.K,aB,Aj.K]
 generalize hz0:szV (.mk 0 0 [] [] f)=z at *
 cases h1:sB s d with
 |false=>
  rw[h1]at q1;refine⟨(Sj,[],false),(λh=>Wu),AQ.plain a0 (by rw[aB,g];rfl) (wA [.cell 2 37, .tmp 3, .tmp 4] func4 ?_)⟩
  repeat' first|refine .br ?_|refine .s1 ?_|(refine .q ?_ ?_<;>intro O)|fail
  exact aI rfl wn
 |true=>
 rw[h1]at q1;have a5:=K2 h1;have i1:ZS s:=⟨hs⟩;have i2:CL s:=⟨so⟩;have i3:Z d.size:=⟨hd⟩;have i4:CV d:=⟨a5⟩;obtain⟨bA,hA,q4⟩:=aA9 s d;have a7:rL s=true:=by unfold sB at h1;rw[and_eq_true]at h1;exact h1.1
 by_cases h2:wN L=true/\¬(2000<(z:Int))/\d.ops≠[]/\bA=true
 case neg=>
  refine⟨(Sj,[],false),(λh=>Wu),AQ.plain a0 (by rw[aB,g];rfl) (wA [.cell 2 37, .tmp 3, .tmp 4] func4 ?_)⟩;generalize wN L=y at *
  have a8:d.ops≠[]↔((d.ops.length:Int)==0)=false:=by
   cases d.ops with
   |nil=>simp
   |cons a l=>simp;omega
  rw[a8]at h2;generalize b4:((d.ops.length:Int)==0)=b0 at *
  generalize b5:decide ((z:Int)>2000)=b2 at *
  have ag:(y && !b2 && !b0&&bA)=false:=by cases y<;>cases b2<;>cases b0<;>cases bA<;>simp_all
  clear h2;cases y<;>cases b2<;>cases b0<;>cases bA<;>first|(exact absurd ag Wc)|skip
  all_goals
   repeat' first|refine .br ?_|refine aH (hw:=ew) q3 ?_|refine .s1 ?_|(refine .q ?_ ?_<;>intro O)|fail
   exact aI rfl wn
 obtain⟨g1,g2,g3,g4⟩:=h2;obtain⟨b,i⟩:=hA g4;have aq:0<d.ops.length:=List.length_pos_iff.2 g3;have a8:d.ops.length<=1048576:=by have:=aJ (size:=Aj.size) (λo=>WW) d.ops;have h2:d.size=aA Aj.size d.ops+aA Af.size d.ai+3:=rfl;omega
 have n0:((d.ops.length:Int)==0)=false:=Wh
 have n1:decide ((z:Int)>2000)=false:=by simpa using g2
 rw[g1]at q2;rw[g4]at q4;have a4:IntKind.u64.wrap (d.ops.length:Int)=(d.ops.length:Int):=by
  have e:∀n:Int,IntKind.u64.wrap n=n % 18446744073709551616:=λn=>YW
  rw[e];omega
 have hu:0<=IntKind.u64.wrap at_:=by
  have e:∀n:Int,IntKind.u64.wrap n=n % 18446744073709551616:=λn=>YW
  rw[e];omega
 generalize hU:IntKind.u64.wrap at_=u at *
 obtain⟨j,hj,a6⟩:∃j:Nat,u.tmod (d.ops.length:Int)=(j:Int)/\j<d.ops.length:=by
  refine⟨(u.tmod (d.ops.length:Int)).toNat, ?_, ?_⟩
  ·rw[Int.toNat_of_nonneg (Int.tmod_nonneg _ hu)]
  ·have:=Int.tmod_lt_of_pos u (show (0:Int)<(d.ops.length:Int) by omega);have:=Int.tmod_nonneg (d.ops.length:Int) hu;omega
 have a2:IntKind.i64.wrap ((j:Nat):Int)=(j:Int):=by simp only[IntKind.wrap,IntKind.bits,IntKind.signed];simp;split<;>omega
 have x1:(d.ops.map Aj.C)[j]? =some d.ops[j].C:=by simp[a6]
 have x:=getElem_mem a6;generalize d.ops[j]=o at *
 obtain⟨c1,c2,c3,c4⟩:=v o x;have q5:=aCW s hs (λe he p hp=>(so e he).2 p hp) o.vars f c4 c3 hv vo;have k:=PG g1 (λt ht r hr=>(a1 t ht r hr).1);have q6:=aAV s (oK b) d _ c1 o L B8 (zM c1 a7 b o) (k.mono Wc) c2;generalize hE:GX s o.vars f=ev at *
 obtain⟨A,e⟩:=ev;dsimp only at c1 q5 q6;have a3:(d.ops.length:Int)≠0:=om
 by_cases w:e=0/\zP s d o A L<=400
 ·refine⟨(o,A,true),λ_=>⟨x,b,i,c1,c2,w.2,k,a7⟩,pER [.cell 2 37, .tmp 3, .tmp 4] func4 (ha:=by rw[aB,g];rfl) ?_⟩;have n3:(e != 0)=false:=by rw[w.1];rfl
  have n4:decide ((zP s d o A L:Int)>400)=false:=Wh
  generalize zP s d o A L=cn at *
  repeat' first|refine .br ?_|refine aH (hw:=ew) q3 ?_|refine gE rfl rfl rfl rfl a4 ?_|refine gE rfl rfl rfl rfl a2 ?_|refine gE rfl rfl rfl rfl hU ?_|refine Ka rfl rfl a3 hj ?_|refine .s1 ?_|(refine .q ?_ ?_<;>intro O)|fail
  exact aO
 ·refine⟨(Sj,[],false),(λh=>Wu),AQ.plain a0 (by rw[aB,g];rfl) (wA [.cell 2 37, .tmp 3, .tmp 4] func4 ?_)⟩;generalize zP s d o A L=cn at *
  by_cases n3:e=0
  ·have ak:(e != 0)=false:=by rw[n3];rfl
   have n4:decide ((cn:Int)>400)=true:=Wh
   repeat' first|refine .br ?_|refine aH (hw:=ew) q3 ?_|refine gE rfl rfl rfl rfl a4 ?_|refine gE rfl rfl rfl rfl a2 ?_|refine gE rfl rfl rfl rfl hU ?_|refine Ka rfl rfl a3 hj ?_|refine .s1 ?_|(refine .q ?_ ?_<;>intro O)|fail
   exact aI rfl wn
  ·have ak:(e != 0)=true:=by simpa using n3
   repeat' first|refine .br ?_|refine aH (hw:=ew) q3 ?_|refine gE rfl rfl rfl rfl a4 ?_|refine gE rfl rfl rfl rfl a2 ?_|refine gE rfl rfl rfl rfl hU ?_|refine Ka rfl rfl a3 hj ?_|refine .s1 ?_|(refine .q ?_ ?_<;>intro O)|fail
   exact aI rfl wn
def Fe(x0 c:Ob)(s:AI)(d:AR)(A:List AG)(st:AT){N:Nat->Nat}(h0:Q 0=2)(h1:Q 1=1)(g0:N 0=2)(b:N 1=4):
  ∀(k i:Nat) (ob:Ob),([2,1]:List Nat)[k]? =some i->(evB s d A st)[k]? =some ob->(Cq x0 c s d A st)[i]? =some (ob.ae Q N)
 |0,i,ob,h,a=>by cases h;cases a;exact congrArg some (Rk s d A st.F h0 h1 g0).symm
 |1,i,ob,h,a=>by cases h;cases a;exact congrArg some (Rl st.L st.R.length b).symm
 |k+2,i,ob,h,a=>Wu
def Sk(st:AT)(d:AV)(a b:Nat)(e:List Tok){N:Nat->Nat}(c:N 2=5):
  ∀(k i:Nat) (t:Tok),([2,4,5]:List Nat)[k]? =some i->(evT st)[k]? =some t->(DL st d a b++e)[i]? =some (t.ae Q N)
 |0,i,t,h,ht=>by cases h;cases ht;rfl
 |1,i,t,h,ht=>by cases h;cases ht;exact congrArg (λx=>some (Tok.Y x)) (zG c st.R).symm
 |2,i,t,h,ht=>by cases h;cases ht;rfl
 |k+3,i,t,h,ht=>Wu
def Uy(st:AT)(c:List AF)(xs:List Nd)(a b:Nat)(g:List Tok){N:Nat->Nat}(d:N 2=5)(e:N 4=6)(f:N 5=7):
  ∀(k i:Nat) (t:Tok),([2,4,5,3,6,7]:List Nat)[k]? =some i->(evT st++[.Y [knP false c (xs.map λy => .ab y.aj)], .len a, .len b])[k]? =some t->(DL st (knR c (xs.map λy => .ab y.aj)) a b++g)[i]? =some (t.ae Q N)
 |0,i,t,h,ht=>by cases h;cases ht;rfl
 |1,i,t,h,ht=>by cases h;cases ht;exact congrArg (λx=>some (Tok.Y x)) (zG d st.R).symm
 |2,i,t,h,ht=>by cases h;cases ht;rfl
 |3,i,t,h,ht=>by cases h;cases ht;exact congrArg (λx=>some (Tok.Y x)) (Jr e f c xs).symm
 |4,i,t,h,ht=>by cases h;cases ht;rfl
 |5,i,t,h,ht=>by cases h;cases ht;rfl
 |k+6,i,t,h,ht=>Wu
def JJ(x0 a:Ob)(s:AI)(d:AR)(A:List AG)(st st': AT){N:Nat->Nat}(h0:Q 0=2)(h1:Q 1=1)(g0:N 0=2)(c:N 1=4):
  fA (Cq x0 a s d A st) [2,1] ((evB s d A st').map (Ob.ae Q N))=Cq x0 a s d A st':= by have b:=Rk s d A st'.F h0 h1 g0;have e1:=Rl (Q:=Q) st'.L st'.R.length c;show [x0,(Ob.cells (lG st'.L st'.R.length)).ae Q N,(Ob.cells (rJ s d A rdV lyV st'.F)).ae Q N,a]=_;rw[b,e1];rfl
def Uz(st:AT)(c:AV)(a b:Nat)(tl:List Tok){N:Nat->Nat}(d:N 2=5):fA (DL st c a b++tl) [2,4,5] ((evT st).map (Tok.ae Q N))=DL st c a b++tl:=by have e:=zG (Q:=Q) d st.R;show (Tok.len 2 :: .len 2 :: .len st.F.length :: .Y [c] :: .Y (aW Q N (kO st.R)) :: .len (eF st.R).length :: .len a :: .len b::tl)++[]=_;rw[e,append_nil];rfl
def aAa(st c:AT)(l:AV)(a b f g:Nat)(d:List AF)(xs:List Nd)(tl:List Tok){N:Nat->Nat}(i:N 2=5)(j:N 4=6)(k:N 5=7):
  fA (DL st l a b++tl) [2,4,5,3,6,7] ((evT c++[Tok.Y [knP false d (xs.map λy => .ab y.aj)],Tok.len f,Tok.len g]).map (Tok.ae Q N))=DL c (knR d (xs.map λy => .ab y.aj)) f g++tl:=by have e:=zG (Q:=Q) i c.R;have h:=Jr (Q:=Q) j k d xs;show (Tok.len 2 :: .len 2 :: .len c.F.length :: .Y (aW Q N [knP false d (xs.map λy => .ab y.aj)]) :: .Y (aW Q N (kO c.R)) :: .len (eF c.R).length :: .len f :: .len g::tl)++[]=_;rw[e,h,append_nil];rfl
def xS:Ob := .cells [.int .i64 0, .int .i64 0, .str [], .slice [] .nil, .slice [] .nil, .slice [] .nil, .slice [] .nil, .slice [] .nil]
def xP(u:AF)(w:List Sl):Ob := .cells [.an 3 10 1 0 0, .str u, .str [], .str [], .slice [] .nil, .bool false, .slice (w.map Sl.C) .no, .slice [] .nil]
def plZ(u:AF)(w:List Sl):AV := .agg [.an 3 10 1 0 0, .str u, .str [], .str [], .slice [] .nil, .bool false, .slice (w.map Sl.C) .no, .slice [] .nil]
def De(u:AF)(w:List Sl)(at_:AV)(h:AC (.an 3 10 1 0 0) at_):AC (plZ u w) (plE at_ u cG w []):=
 AC.agg (AA.cons h (AA.cons (aG _) (AA.cons (aG _) (AA.cons (aG _) (AA.cons (AC.no (aD _)) (AA.cons (aG _) (AA.cons (aG _) (AA.cons (AC.no (aD _)) (aD _)))))))))
theorem Sm{N:Nat->Nat}(h0:Q 0=2)(at_:AV)(ha:at_.ae Q N=at_)(u:AF)(w:List Sl):aW Q N [.ptr 0 0,plE at_ u cG w []]=[.ptr 2 0,plE at_ u cG w []]:=by simp only[plE,aW,AV.ae,Tk.ae,h0,ha,aS _ _ _ (aZ w),cG,map_nil]
theorem UA{N:Nat->Nat}(h0:Q 0=2)(at_:AV)(ha:at_.ae Q N=at_)(u:AF)(w:List Sl)(g:AV)(a:g.K=true):aW Q N [.ptr 0 0,plE at_ u cG w [],g, .nilfn]=[.ptr 2 0,plE at_ u cG w [],g, .nilfn]:=by simp only[plE,aW,AV.ae,Tk.ae,h0,ha,aS _ _ _ (aZ w),cG,map_nil,cV _ _ _ a]
def EP(v:AH)(F:List A0)(R:List (List Aa))(L:List AY):(Ez v F R L).K=true:=by have hF:aB (F.map A0.C)=true:=bF (λf=>WZ) F;have a:aB (kI R)=true:=bF (λr=>by simp[AV.K,wE]) R;simp[Ez,AV.K,aB,AH.bo,AH.bt,hF,a,Tbls.K]
def Oy(n m:Nat)(h:5<m):∀R,aE n m (rdJ 5 R)=true
 |[]=>rfl
 |[r]=>by simp[rdJ,aE,AV.aa,h]
 |r::q::l=>by have:=Oy n m h (q::l);rw[rdJ,aE,this];simp[AV.aa]
def Oz(u:AF)(w:List Sl)(s:AI)(d:AR)(A:List AG)(st:AT)(c:List AF)(xs:List Nd)(a b:Nat):
  (aQ 4 8 (Cq xS (xP u w) s d A st)&&aL 4 8 (DL st (knR c (xs.map λy => .ab y.aj)) a b))=true:=by have h1:aE 4 8 (xs.map λy => .ab y.aj)=true:=aC _ _ _ (gX _);have h2:aE 4 8 (c.map AV.str)=true:=aC _ _ _ (aR _);have h3:=Oy 4 8 om st.R;have h4:aE 4 8 (st.F.map A0.C)=true:=aC _ _ _ (bF (λf=>WZ) _);simp[Cq,DL,xS,xP,rnR,wkR,knR,aQ,aL,Ob.aa,Tok.aa,aE,AV.aa,h1,h2,h3,h4,Tbls.C,fG]
def Vo(s:AI)(d:AR)(A:List AG)(o:Aj)(l:List AY)(n:Nat)(Y:Am s d A)(a9:o.kind≠1)(aw:oR d=false)(aa:Ai o.O 0)(hT:BT l)
  (O:(bV s d A (n+1) false (aV s o) cG o.O [] false ⟨l,[],[[]],0⟩).2.c<=4096) (G:List A0)
  (b:AN prog 32 [.slice ((bV s d A (n+1) false (aV s o) cG o.O [] false ⟨l,[],[[]],0⟩).2.F.map A0.C) .no] (.slice (G.map A0.C) .no)):
  AN prog 6 [s.C,d.C,o.C, .slice (A.map AG.C) .no,Tbls.C l]
   (Ez (upM (bV s d A (n+1) false (aV s o) cG o.O [] false ⟨l,[],[[]],0⟩).1).1 G (bV s d A (n+1) false (aV s o) cG o.O [] false ⟨l,[],[[]],0⟩).2.R (bV s d A (n+1) false (aV s o) cG o.O [] false ⟨l,[],[[]],0⟩).2.L):=by
 have hplk:=nZ s d A n;have hpl:=Jk s d A Y n;have h0:At ⟨l,[],[[]],0⟩:=⟨le_refl _,Wa,zero_le _,(by show 1<=1048576;decide),hT⟩;have a4:=Jf s d A Y ⟨l,[],[[]],0⟩ (aV s o) cG o.O [] aa (zero_le _);have ak:=pV s d A Y (aV s o) aa;have bd:=zF s d A _ (mD s d A n) false (aV s o) cG o.O [] false ⟨l,[],[[]],0⟩ (fmG s d A n (aV s o) cG []) (λ_ _=>rfl);have bh:=Jj (fmG s d A n (aV s o) cG []) (λg st h=>lN s d A _ hplk (aV s o) cG g _ st h) (λg st h=>Kz s d A _ hplk (aV s o) cG g _ st h) (bG s d A (aV s o) o.O) (AT.ag ⟨l,[],[[]],0⟩) h0.ag.ok;have ag:=zB (fmG s d A n (aV s o) cG []) (λg st h=>lN s d A _ hplk (aV s o) cG g _ st h) (bG s d A (aV s o) o.O);have ai:=nS (fmG s d A n (aV s o) cG []) (bG s d A (aV s o) o.O);have ah:=λl st h=>xA (fmG s d A n (aV s o) cG []) (λg st h=>lN s d A _ hplk (aV s o) cG g _ st h) l st h
 have a2:=λl=>xX (fmG s d A n (aV s o) cG []) l
 have ae:bV s d A (n+1) false (aV s o) cG o.O [] false ⟨l,[],[[]],0⟩=(.mk 2 false bO ((bG s d A (aV s o) o.O).map AW.key) (bX (fmG s d A n (aV s o) cG []) (bG s d A (aV s o) o.O) (AT.ag ⟨l,[],[[]],0⟩)).1,(bX (fmG s d A n (aV s o) cG []) (bG s d A (aV s o) o.O) (AT.ag ⟨l,[],[[]],0⟩)).2):=rfl;rw[ae]at O b ⊢;dsimp only at O b ⊢;have ac:=h0.ag.ok;have b3:∀g∈bG s d A (aV s o) o.O,g.O≠[]/\Ai g.O (AT.ag ⟨l,[],[[]],0⟩).c:=ak;have f:=λ(g:AW) (x:Sl) (C:List Sl) (q:AT) (ks:List AF) (xs:List Nd) (u:g.O=x::C)=>NQ s d A Y n hplk hpl (aV s o) cG ⟨Wc,λm hm=>by cases hm⟩ g x C u o.O [] q false ks xs
 have e0:evB s d A ⟨l,[],[[]],0⟩=evB s d A (AT.ag ⟨l,[],[[]],0⟩):=rfl;have e1:evT ⟨l,[],[[]],0⟩=evT (AT.ag ⟨l,[],[[]],0⟩):=rfl;rw[e0,e1]at a4;have bn:=OK l Y1 (λt ht=>Yj) (λt ht r hr=>by have:=hT.a7.aq t ht r hr;omega);have bm:=U6 s o;have av:=Ra d Y.hd;rw[aw]at av;have n1:=bnT a9;have n2:=beF a9;generalize bG s d A (aV s o) o.O=a at *
 have bk:a.length<=4096:=by have e:(AT.ag ⟨l,[],[[]],0⟩).c=1:=rfl;omega
 have af:=cM s d A (AT.ag ⟨l,[],[[]],0⟩) 3 om;have b5:=nG 2 3 om (AT.ag ⟨l,[],[[]],0⟩);have aq:aE 2 3 [.ptr 0 0,plE .undef (aV s o) cG o.O []]=true:=by simp[plE,aE,AV.aa,cG]
 have be:AV.aa 2 3 (.slice (a.map AW.C) .no)=true:=aF _ _ _ WM;have aj:(AV.slice (a.map AW.C) .no).K=true:=WM
 refine pER [.cell 10 47] func6 (O:=EP _ _ _ _) (ha:=by simp[AV.K,aB,AI.K,AR.K,Aj.K,aT,Tbls.K]) ?_
 repeat' first|refine AD.bx (v := .agg [Tbls.C l,_]) ?_|refine AD.bx (v := .agg [_,_,_,_,_,_,_,_,_]) ?_|refine .br ?_|refine bH (d:=11) ?_|refine bY 11 rfl (aY) ?_|refine bH (d:=12) ?_|refine bY 12 rfl (aY) ?_|refine f8 2 8 rfl rfl (lF (k:=2) (z:=2) rfl rfl rfl) rfl ?_|refine bY 10 rfl (KK (k:=4) (i:=0) rfl rfl (lF (k:=5) (z:=2) rfl rfl rfl) rfl rfl) ?_|refine bY 10 rfl (cU (k:=3) (i:=0) (c:=7) rfl rfl rfl (lF (k:=6) (z:=1) rfl rfl rfl) rfl rfl) ?_|refine bY 10 rfl (cU (k:=3) (i:=0) (c:=9) rfl rfl rfl (lF (k:=7) (z:=1) rfl rfl rfl) rfl rfl) ?_|refine .s1 ?_|(refine .q ?_ ?_<;>intro O)|refine bZ ?_|refine aX (agg:=false) ?_|refine F0 rfl (λB=>U5 B _) (aD _) ?_|refine dH (m:=1) rfl rfl ?_|fail
 refine lX (nB:=4) (nT:=8) (B0:=evB s d A (AT.ag ⟨l,[],[[]],0⟩)) (T0:=evT (AT.ag ⟨l,[],[[]],0⟩)) (B1:=evB s d A (AT.ag ⟨l,[],[[]],0⟩)) (T1:=evT (AT.ag ⟨l,[],[[]],0⟩)) (v := .slice (a.map AW.C) .no)
  (B':= Cq xS (xP (aV s o) o.O) s d A (AT.ag ⟨l,[],[[]],0⟩)) (T':= DL (AT.ag ⟨l,[],[[]],0⟩) (knR [] []) 0 0) [2,1] [2,4,5] rfl a4 rfl rfl (E8 om) ⟨Wc,Wc⟩ rfl rfl
  (Fe xS (xP (aV s o) o.O) s d A (AT.ag ⟨l,[],[[]],0⟩) rfl rfl rfl rfl) (Sk (AT.ag ⟨l,[],[[]],0⟩) (knR [] []) 0 0 [] rfl) af b5 aq
  X3 (cV _ _ _ aj)
  (JJ xS (xP (aV s o) o.O) s d A (AT.ag ⟨l,[],[[]],0⟩) (AT.ag ⟨l,[],[[]],0⟩) rfl rfl rfl rfl) (Uz (AT.ag ⟨l,[],[[]],0⟩) (knR [] []) 0 0 [] rfl) ?_
 refine .go ?_;refine bK a.length (λk=>[(62, .int .i64 k),(61, .int .i64 a.length),(60, .slice (a.map AW.C) .no),(13, .ptr 3 0),(12, .ab (.ptr 2 0)),(11, .ab (.ptr 1 0)),(10, .ptr 0 0),(7, .ab o.C)]) (λk=>⟨Cq xS (xP (aV s o) o.O) s d A (bX (fmG s d A n (aV s o) cG []) (a.take k) (AT.ag ⟨l,[],[[]],0⟩)).2,DL (bX (fmG s d A n (aV s o) cG []) (a.take k) (AT.ag ⟨l,[],[[]],0⟩)).2 (knR ((a.take k).map AW.key) ((bX (fmG s d A n (aV s o) cG []) (a.take k) (AT.ag ⟨l,[],[[]],0⟩)).1.map λy => .ab y.aj)) k k⟩) (λk=>True) ⟨rfl,congrArg (AV.int .i64) Wa,rfl,rfl,rfl,rfl,rfl,rfl,trivial⟩ λk bi _=> ?_
 by_cases h1:k<a.length
 ·have d1:=ltT h1;have x1:(a.map AW.C)[k]? =some a[k].C:=by simp[h1]
  have p:=ai k h1 (AT.ag ⟨l,[],[[]],0⟩);have a6:=ag (k+1) (AT.ag ⟨l,[],[[]],0⟩) ac;have w:=ah (a.take k) (AT.ag ⟨l,[],[[]],0⟩) ac;have ar:=a2 (a.take k) (AT.ag ⟨l,[],[[]],0⟩);have a5:(a.take k).length=k:=Wh
  have a8:BD _ _:=lN s d A (bV s d A n false) hplk (aV s o) cG a[k] ([]++[⟨a[k].key,0⟩]) (bX (fmG s d A n (aV s o) cG []) (a.take k) (AT.ag ⟨l,[],[[]],0⟩)).2 w.ok;obtain⟨b0,b4⟩:=b3 a[k] (getElem_mem h1);obtain⟨x,C,u⟩:=List.exists_cons_of_ne_nil b0;have an:(a.take k).map AW.key++[a[k].key]=(a.take (k+1)).map AW.key:=Wt
  rw[p]at a6;have ab:(fmG s d A n (aV s o) cG [] a[k] (bX (fmG s d A n (aV s o) cG []) (a.take k) (AT.ag ⟨l,[],[[]],0⟩)).2).2.c<=4096:=le_trans a6 O;have a1:=f a[k] x C (bX (fmG s d A n (aV s o) cG []) (a.take k) (AT.ag ⟨l,[],[[]],0⟩)).2 ((a.take k).map AW.key) (bX (fmG s d A n (aV s o) cG []) (a.take k) (AT.ag ⟨l,[],[[]],0⟩)).1 u w.ok (b4.mono w.c) (zero_le _) (le_trans a8.c ab) WR om ab;generalize bX (fmG s d A n (aV s o) cG []) (a.take k) (AT.ag ⟨l,[],[[]],0⟩)=q at *
  generalize fmG s d A n (aV s o) cG [] a[k] q.2=r at *
  rw[length_map,a5,ar,a5]at a1;have al:∀l:List Nd,aE 2 6 (l.map λy => .ab y.aj)=true:=λl=>aC _ _ _ (gX _)
  have am:∀l:List AF,aE 2 6 (l.map AV.str)=true:=λl=>aC _ _ _ (aR _)
  have ax:∀(st:AT) (ks:List AF) (xs:List Nd) (j:Nat),aL 2 6 (evT st++[.Y [knP false ks (xs.map λy => .ab y.aj)], .len j, .len j])=true:=λst ks xs j=>F2 _ _ om _ _ (by simp only[aL,Tok.aa,aE,AV.aa,knP,al,am];rfl)
  have q1:=cM s d A q.2 6 om;have q2:=ax q.2 ((a.take k).map AW.key) q.1 k;have ao:aE 2 6 [.ptr 0 0,plE (.an 3 10 1 0 0) (aV s o) cG o.O [],a[k].C, .nilfn]=true:=by have:=aF 2 6 _ (AW.K a[k]);simp[plE,aE,AV.aa,this,cG]
  have hw:AA [.ptr 2 0,plZ (aV s o) o.O,a[k].C, .nilfn] (aW (emb 4 [2,1]) (emb 9 [2,4,5,3,6,7]) [.ptr 0 0,plE (.an 3 10 1 0 0) (aV s o) cG o.O [],a[k].C, .nilfn]):=by rw[UA rfl (.an 3 10 1 0 0) (by rw[AV.ae];rfl) _ _ _ (AW.K _)];exact AA.cons (aG _) (AA.cons (De _ _ _ (aG _)) (aD _))
  have b1:=Fe xS (xP (aV s o) o.O) s d A q.2 (Q:=emb 4 [2,1]) (N:=emb 9 [2,4,5,3,6,7]) rfl rfl rfl rfl;have ba:=Uy q.2 ((a.take k).map AW.key) q.1 k k [.len 2] (Q:=emb 4 [2,1]) (N:=emb 9 [2,4,5,3,6,7]) rfl rfl rfl;have ay:=JJ xS (xP (aV s o) o.O) s d A q.2 r.2 (Q:=emb 4 [2,1]) (N:=emb 9 [2,4,5,3,6,7]) rfl rfl rfl rfl;have az:=aAa q.2 r.2 (knR ((a.take k).map AW.key) (q.1.map λy => .ab y.aj)) k k (k+1) (k+1) ((a.take k).map AW.key++[a[k].key]) (q.1++[r.1]) [.len 2] (Q:=emb 4 [2,1]) (N:=emb 9 [2,4,5,3,6,7]) rfl rfl rfl
  repeat' first|refine .br ?_|refine bH (d:=15) ?_|refine bY 15 rfl (aY) ?_|refine .s1 ?_|(refine .q ?_ ?_<;>intro O)|refine bZ ?_|refine aX (agg:=true) ?_|refine lX (nB:=4) (nT:=9) (v := .tup []) [2,1] [2,4,5,3,6,7] rfl a1 rfl rfl (E8 om) ⟨Wc,Wc⟩ rfl rfl b1 ba q1 q2 ao hw rfl ay az ?_|fail
  refine⟨h1,Z0, ?_, ?_, ?_,trivial⟩
  ·have a3:aE 4 8 (a.map AW.C)=true:=aC _ _ _ (cQ _);show aM 4 8 _=true;simp[aM,AV.aa,a3]
  ·exact Oz _ _ _ _ _ _ _ _ _ _
  ·show (⟨Cq xS (xP (aV s o) o.O) s d A r.2,DL r.2 (knR ((a.take k).map AW.key++[a[k].key]) ((q.1++[r.1]).map λy => .ab y.aj)) (k+1) (k+1)⟩:St)=_;rw[p,an]
 ·have d1:=ltF h1;obtain rfl:k=a.length:=om
  rw[take_length];generalize bX (fmG s d A n (aV s o) cG []) a (AT.ag ⟨l,[],[[]],0⟩)=q at *
  have a7:(Nd.mk 2 false bO (a.map AW.key) q.1).cnt<=68719476736:=om
  have bj:=Q4 _ (Nd.mk 2 false bO (a.map AW.key) q.1) a7 (le_refl _);have hup:=tUp _ (Nd.mk 2 false bO (a.map AW.key) q.1) a7 (le_refl _);have bb:AC (knR (a.map AW.key) (q.1.map λy => .ab y.aj)) (Nd.mk 2 false bO (a.map AW.key) q.1).aj:=
   AC.agg (AA.cons (aG _) (AA.cons (aG _) (AA.cons (aG _) (AA.cons (aG _) (AA.cons (aG _) (AA.cons (AC.no (AA.eq (sC _ _ _ _).symm)) (AA.cons (AC.no (AA.eq (wQ _ _ _ _).symm)) (AA.cons (AC.no (aD _)) (AA.cons (aG _)
    (AA.cons (AC.no (AA.eq Yr)) (aD _)))))))))))
  have ap:(kI q.2.R).length=(rdJ 5 q.2.R).length:=by rw[Jn];unfold kI;rw[length_map]
  have au:(kI q.2.R).length=q.2.R.length:=by unfold kI;rw[length_map]
  have a0:AV.slice (((kI q.2.R).take q.2.R.length).drop 0) .no = .slice (kI q.2.R) .no:=Zl
  have b2:=F8 5 q.2.R;have bc:AA [.slice (q.2.F.map A0.C) (.own 2 2)] [.slice (q.2.F.map A0.C) .no]:=AA.cons (AC.no (aD _)) (aD _);unfold Cq DL xS xP rnR wkR;generalize Nd.mk 2 false bO (a.map AW.key) q.1=nd at *
  generalize knR (a.map AW.key) (q.1.map λy => .ab y.aj)=kn at *
  repeat' first|refine f8 3 0 rfl rfl (AJ.trans (eP (k:=3) rfl bb rfl) (aY (k:=3) (n:=1) (j:=0))) rfl ?_|refine f8 1 1 rfl rfl (AJ.trans (DK (k:=4) rfl b2 ap rfl) (AJ.trans (b6 (k:=4) (lo:=0) (X:=q.2.R.length) rfl au rfl) (AJ.a6 (AC.eq a0)))) rfl ?_|refine aH (hw:=bc) b ?_|refine .s1 ?_|(refine .q ?_ ?_<;>intro O)|refine bZ ?_|fail
  exact aO
def sF(st:AT)(kn:AV)(a b:Nat):List Tok:=[.len 2, .len 2, .len st.F.length, .Y [kn], .Y (kI st.R), .len 0, .len a, .len b]
def P0[AK]{H:St}(k:Nat){z0:AV}{T': List Tok}(hk:dM H.T=some k)(hT': kU H.T (.len 0) some=some T'):AJ H z0 ⟨H.B,T'⟩ z0:=Rj (P:=prog) hT'
def P1(st:AT)(c:st.R=[])(d:AV)(a b:Nat){N:Nat->Nat}:
  ∀(k i:Nat) (t:Tok),([2,4,5]:List Nat)[k]? =some i->(evT st)[k]? =some t->(sF st d a b)[i]? =some (t.ae Q N)
 |0,i,t,h,ht=>by cases h;cases ht;rfl
 |1,i,t,h,ht=>by cases h;cases ht;show some (Tok.Y (kI st.R))=some (.Y (aW Q N (kO st.R)));rw[c];rfl
 |2,i,t,h,ht=>by cases h;cases ht;rw[c];rfl
 |k+3,i,t,h,ht=>Wu
def So(st:AT)(d:st.R=[])(c:AV)(a b:Nat){N:Nat->Nat}:fA (sF st c a b) [2,4,5] ((evT st).map (Tok.ae Q N))=sF st c a b:=by show (Tok.len 2 :: .len 2 :: .len st.F.length :: .Y [c] :: .Y (aW Q N (kO st.R)) :: .len (eF st.R).length :: .len a :: .len b::[])=_;unfold sF;rw[d];rfl
def Sp(st:AT)(c:List AF)(xs:List Nd)(a b:Nat)(f:List Tok){N:Nat->Nat}(d:N 4=6)(e:N 5=7):
  ∀(k i:Nat) (t:Tok),([2,4,5,3,6,7]:List Nat)[k]? =some i->(mvT st++[.Y [knP false c (xs.map λy => .ab y.aj)], .len a, .len b])[k]? =some t->(sF st (knR c (xs.map λy => .ab y.aj)) a b++f)[i]? =some (t.ae Q N)
 |0,i,t,h,ht=>by cases h;cases ht;rfl
 |1,i,t,h,ht=>by cases h;cases ht;exact congrArg (λx=>some (Tok.Y x)) (aS _ _ _ (gZ st.R)).symm
 |2,i,t,h,ht=>by cases h;cases ht;rfl
 |3,i,t,h,ht=>by cases h;cases ht;exact congrArg (λx=>some (Tok.Y x)) (Jr d e c xs).symm
 |4,i,t,h,ht=>by cases h;cases ht;rfl
 |5,i,t,h,ht=>by cases h;cases ht;rfl
 |k+6,i,t,h,ht=>Wu
def UB(st c:AT)(k:AV)(a b f g:Nat)(d:List AF)(xs:List Nd)(tl:List Tok){N:Nat->Nat}(i:N 4=6)(j:N 5=7):
  fA (sF st k a b++tl) [2,4,5,3,6,7] ((mvT c++[Tok.Y [knP false d (xs.map λy => .ab y.aj)],Tok.len f,Tok.len g]).map (Tok.ae Q N))=sF c (knR d (xs.map λy => .ab y.aj)) f g++tl:=by have e:=aS Q N _ (gZ c.R);have h:=Jr (Q:=Q) i j d xs;show (Tok.len 2 :: .len 2 :: .len c.F.length :: .Y (aW Q N [knP false d (xs.map λy => .ab y.aj)]) :: .Y (aW Q N (kI c.R)) :: .len 0 :: .len f :: .len g::tl)++[]=_;rw[e,h,append_nil];rfl
def Sq(u:AF)(w:List Sl)(s:AI)(d:AR)(A:List AG)(st:AT)(c:List AF)(xs:List Nd)(a b:Nat):
  (aQ 4 8 (Cq xS (xP u w) s d A st)&&aL 4 8 (sF st (knR c (xs.map λy => .ab y.aj)) a b))=true:=by have h1:=Oz u w s d A st c xs a b;rw[and_eq_true]at h1 ⊢;refine⟨h1.1, ?_⟩;have h2:=h1.2;unfold DL at h2;unfold sF;simp only[aL,and_eq_true]at h2 ⊢;exact⟨h2.1,h2.2.1,h2.2.2.1,h2.2.2.2.1,by rw[Tok.aa,aC _ _ _ (gZ _)],rfl,h2.2.2.2.2.2.2⟩
theorem Sr{N:Nat->Nat}(h0:Q 0=2)(h1:Q 1=1)(at_:AV)(ha:at_.ae Q N=at_)(u:AF)(w:List Sl)(g:AV)(a:g.K=true):aW Q N [.ptr 0 0,plE at_ u cG w [],g,doV]=[.ptr 2 0,plE at_ u cG w [],g,doV]:=by simp only[plE,doV,aW,AV.ae,Tk.ae,h0,h1,ha,aS _ _ _ (aZ w),cG,map_nil,cV _ _ _ a]
def aC8(s:AI)(d:AR)(A:List AG)(o:Aj)(l:List AY)(n:Nat)(Y:Am s d A)(a4:o.kind=1)(al:oR d=false)(a5:Ai o.O 0)(W:Nat->List AY->Prop)(hW:BI s A (aV s o) W)(hno:Bl s (aV s o))(hk:W 1 l)
  (O:(bV s d A (n+1) true (aV s o) cG o.O [] false ⟨l,[],[],0⟩).2.c<=400) (G:List A0)
  (b:AN prog 32 [.slice ((bV s d A (n+1) true (aV s o) cG o.O [] false ⟨l,[],[],0⟩).2.F.map A0.C) .no] (.slice (G.map A0.C) .no)):
  AN prog 6 [s.C,d.C,o.C, .slice (A.map AG.C) .no,Tbls.C l]
   (Ez (upM (bV s d A (n+1) true (aV s o) cG o.O [] false ⟨l,[],[],0⟩).1).1 G (bV s d A (n+1) true (aV s o) cG o.O [] false ⟨l,[],[],0⟩).2.R (bV s d A (n+1) true (aV s o) cG o.O [] false ⟨l,[],[],0⟩).2.L):=by
 have hT:=hW.bq _ _ hk;have a1:=Jf s d A Y ⟨l,[],[],0⟩ (aV s o) cG o.O [] a5 (zero_le _);have ab:=pV s d A Y (aV s o) a5;have az:=zF s d A _ (mD s d A n) true (aV s o) cG o.O [] false ⟨l,[],[],0⟩ (fmT s d A n (aV s o)) (λ_ _=>rfl);have a9:=nS (fmT s d A n (aV s o)) (bG s d A (aV s o) o.O);have w:=λl=>xX (fmT s d A n (aV s o)) l
 have a7:bV s d A (n+1) true (aV s o) cG o.O [] false ⟨l,[],[],0⟩=(.mk 2 false bO ((bG s d A (aV s o) o.O).map AW.key) (bX (fmT s d A n (aV s o)) (bG s d A (aV s o) o.O) (AT.ag ⟨l,[],[],0⟩)).1,(bX (fmT s d A n (aV s o)) (bG s d A (aV s o) o.O) (AT.ag ⟨l,[],[],0⟩)).2):=rfl;rw[a7]at O b ⊢;dsimp only at O b ⊢;have a6:∀g∈bG s d A (aV s o) o.O,g.O≠[]/\Ai g.O 1:=ab;have h:=Gj s d A Y n (aV s o) W hW hno 1 _ a6 (AT.ag ⟨l,[],[],0⟩) ⟨zero_le _,zero_le _,hk⟩ O;have e0:evB s d A ⟨l,[],[],0⟩=evB s d A (AT.ag ⟨l,[],[],0⟩):=rfl;have e1:evT ⟨l,[],[],0⟩=evT (AT.ag ⟨l,[],[],0⟩):=rfl;rw[e0,e1]at a1;have bd:=OK l Y1 (λt ht=>Yj) (λt ht r hr=>by have:=hT.a7.aq t ht r hr;omega);have bc:=U6 s o;have ak:=Ra d Y.hd;rw[al]at ak;have n1:(o.kind != 1)=false:=YT
 have n2:(o.kind==1)=true:=YT
 generalize bG s d A (aV s o) o.O=a at *
 have bb:a.length<=4096:=by have:=h a.length (le_refl _);omega
 have a8:=cM s d A (AT.ag ⟨l,[],[],0⟩) 3 om;have au:=nG 2 3 om (AT.ag ⟨l,[],[],0⟩);have ah:aE 2 3 [.ptr 0 0,plE .undef (aV s o) cG o.O []]=true:=by simp[plE,aE,AV.aa,cG]
 have b0:AV.aa 2 3 (.slice (a.map AW.C) .no)=true:=aF _ _ _ WM;have aa:(AV.slice (a.map AW.C) .no).K=true:=WM
 refine pER [.cell 10 47] func6 (O:=EP _ _ _ _) (ha:=by simp[AV.K,aB,AI.K,AR.K,Aj.K,aT,Tbls.K]) ?_
 repeat' first|refine AD.bx (v := .agg [Tbls.C l,_]) ?_|refine AD.bx (v := .agg [_,_,_,_,_,_,_,_,_]) ?_|refine .br ?_|refine bH (d:=11) ?_|refine bY 11 rfl (aY) ?_|refine bH (d:=12) ?_|refine bY 12 rfl (aY) ?_|refine f8 2 8 rfl rfl (lF (k:=2) (z:=2) rfl rfl rfl) rfl ?_|refine f8 1 1 rfl rfl (kE (k:=4) (z:=1) rfl rfl rfl) rfl ?_|refine bY 10 rfl (P0 5 rfl rfl) ?_|refine bY 10 rfl (cU (k:=3) (i:=0) (c:=7) rfl rfl rfl (lF (k:=6) (z:=1) rfl rfl rfl) rfl rfl) ?_|refine bY 10 rfl (cU (k:=3) (i:=0) (c:=9) rfl rfl rfl (lF (k:=7) (z:=1) rfl rfl rfl) rfl rfl) ?_|refine .s1 ?_|(refine .q ?_ ?_<;>intro O)|refine bZ ?_|refine aX (agg:=false) ?_|refine F0 rfl (λB=>U5 B _) (aD _) ?_|refine dH (m:=1) rfl rfl ?_|fail
 refine lX (nB:=4) (nT:=8) (B0:=evB s d A (AT.ag ⟨l,[],[],0⟩)) (T0:=evT (AT.ag ⟨l,[],[],0⟩)) (B1:=evB s d A (AT.ag ⟨l,[],[],0⟩)) (T1:=evT (AT.ag ⟨l,[],[],0⟩)) (v := .slice (a.map AW.C) .no)
  (B':= Cq xS (xP (aV s o) o.O) s d A (AT.ag ⟨l,[],[],0⟩)) (T':= sF (AT.ag ⟨l,[],[],0⟩) (knR [] []) 0 0) [2,1] [2,4,5] rfl a1 rfl rfl (E8 om) ⟨Wc,Wc⟩ rfl rfl
  (Fe xS (xP (aV s o) o.O) s d A (AT.ag ⟨l,[],[],0⟩) rfl rfl rfl rfl) (P1 (AT.ag ⟨l,[],[],0⟩) rfl (knR [] []) 0 0) a8 au ah
  X3 (cV _ _ _ aa)
  (JJ xS (xP (aV s o) o.O) s d A (AT.ag ⟨l,[],[],0⟩) (AT.ag ⟨l,[],[],0⟩) rfl rfl rfl rfl) (So (AT.ag ⟨l,[],[],0⟩) rfl (knR [] []) 0 0) ?_
 refine .go ?_;refine bK a.length (λk=>[(62, .int .i64 k),(61, .int .i64 a.length),(60, .slice (a.map AW.C) .no),(13, .ptr 3 0),(12, .ab (.ptr 2 0)),(11, .ab (.ptr 1 0)),(10, .ptr 0 0),(7, .ab o.C)]) (λk=>⟨Cq xS (xP (aV s o) o.O) s d A (bX (fmT s d A n (aV s o)) (a.take k) (AT.ag ⟨l,[],[],0⟩)).2,sF (bX (fmT s d A n (aV s o)) (a.take k) (AT.ag ⟨l,[],[],0⟩)).2 (knR ((a.take k).map AW.key) ((bX (fmT s d A n (aV s o)) (a.take k) (AT.ag ⟨l,[],[],0⟩)).1.map λy => .ab y.aj)) k k⟩) (λk=>True) ⟨rfl,congrArg (AV.int .i64) Wa,rfl,rfl,rfl,rfl,rfl,rfl,trivial⟩ λk b5 _=> ?_
 by_cases h1:k<a.length
 ·have d1:=ltT h1;have x1:(a.map AW.C)[k]? =some a[k].C:=by simp[h1]
  have f:=a9 k h1 (AT.ag ⟨l,[],[],0⟩);obtain⟨k1,k2,k3⟩:=h k om;obtain⟨m1,m2,m3⟩:=h (k+1) h1;have ai:=w (a.take k) (AT.ag ⟨l,[],[],0⟩);have a2:(a.take k).length=k:=Wh
  obtain⟨ap,ar⟩:=a6 a[k] (getElem_mem h1);obtain⟨x,C,ac⟩:=List.exists_cons_of_ne_nil ap;have af:(a.take k).map AW.key++[a[k].key]=(a.take (k+1)).map AW.key:=Wt
  rw[f]at m3;have u:=TQ s d A Y n (aV s o) W hW hno a[k] x C ac ar o.O (bX (fmT s d A n (aV s o)) (a.take k) (AT.ag ⟨l,[],[],0⟩)).2 k1 (by have e:(AT.ag ⟨l,[],[],0⟩).c=1:=rfl;omega) (by dsimp only at m3;omega) false ((a.take k).map AW.key) (bX (fmT s d A n (aV s o)) (a.take k) (AT.ag ⟨l,[],[],0⟩)).1 WR om;clear m1 m2 m3 k1 k2 k3;generalize bX (fmT s d A n (aV s o)) (a.take k) (AT.ag ⟨l,[],[],0⟩)=q at *
  generalize fmT s d A n (aV s o) a[k] q.2=r at *
  rw[length_map,a2,ai,a2]at u;have ad:∀l:List Nd,aE 2 6 (l.map λy => .ab y.aj)=true:=λl=>aC _ _ _ (gX _)
  have ae:∀l:List AF,aE 2 6 (l.map AV.str)=true:=λl=>aC _ _ _ (aR _)
  have am:∀(st:AT) (ks:List AF) (xs:List Nd) (j:Nat),aL 2 6 (mvT st++[.Y [knP false ks (xs.map λy => .ab y.aj)], .len j, .len j])=true:=λst ks xs j=>by rw[iE,qQ];simp only[aL,Tok.aa,aE,AV.aa,knP,ad,ae];rfl
  have q1:=cM s d A q.2 6 om;have q2:=am q.2 ((a.take k).map AW.key) q.1 k;have ag:aE 2 6 [.ptr 0 0,plE (.an 3 10 1 0 0) (aV s o) cG o.O [],a[k].C,doV]=true:=by have:=aF 2 6 _ (AW.K a[k]);simp[plE,doV,aE,AV.aa,this,cG]
  have hw:AA [.ptr 2 0,plZ (aV s o) o.O,a[k].C,doV] (aW (emb 4 [2,1]) (emb 9 [2,4,5,3,6,7]) [.ptr 0 0,plE (.an 3 10 1 0 0) (aV s o) cG o.O [],a[k].C,doV]):=by rw[Sr rfl rfl (.an 3 10 1 0 0) (by rw[AV.ae];rfl) _ _ _ (AW.K _)];exact AA.cons (aG _) (AA.cons (De _ _ _ (aG _)) (aD _))
  have aq:=Fe xS (xP (aV s o) o.O) s d A q.2 (Q:=emb 4 [2,1]) (N:=emb 9 [2,4,5,3,6,7]) rfl rfl rfl rfl;have av:=Sp q.2 ((a.take k).map AW.key) q.1 k k [.len 2] (Q:=emb 4 [2,1]) (N:=emb 9 [2,4,5,3,6,7]) rfl rfl;have an:=JJ xS (xP (aV s o) o.O) s d A q.2 r.2 (Q:=emb 4 [2,1]) (N:=emb 9 [2,4,5,3,6,7]) rfl rfl rfl rfl;have ao:=UB q.2 r.2 (knR ((a.take k).map AW.key) (q.1.map λy => .ab y.aj)) k k (k+1) (k+1) ((a.take k).map AW.key++[a[k].key]) (q.1++[r.1]) [.len 2] (Q:=emb 4 [2,1]) (N:=emb 9 [2,4,5,3,6,7]) rfl rfl
  repeat' first|refine .br ?_|refine bH (d:=15) ?_|refine bY 15 rfl (aY) ?_|refine .s1 ?_|(refine .q ?_ ?_<;>intro O)|refine bZ ?_|refine aX (agg:=true) ?_|refine lX (nB:=4) (nT:=9) (v := .tup []) [2,1] [2,4,5,3,6,7] rfl u rfl rfl (E8 om) ⟨Wc,Wc⟩ rfl rfl aq av q1 q2 ag hw rfl an ao ?_|fail
  refine⟨h1,Z0, ?_, ?_, ?_,trivial⟩
  ·have a0:aE 4 8 (a.map AW.C)=true:=aC _ _ _ (cQ _);show aM 4 8 _=true;simp[aM,AV.aa,a0]
  ·exact Sq _ _ _ _ _ _ _ _ _ _
  ·show (⟨Cq xS (xP (aV s o) o.O) s d A r.2,sF r.2 (knR ((a.take k).map AW.key++[a[k].key]) ((q.1++[r.1]).map λy => .ab y.aj)) (k+1) (k+1)⟩:St)=_;rw[f,af]
 ·have d1:=ltF h1;obtain rfl:k=a.length:=om
  rw[take_length];generalize bX (fmT s d A n (aV s o)) a (AT.ag ⟨l,[],[],0⟩)=q at *
  have a3:(Nd.mk 2 false bO (a.map AW.key) q.1).cnt<=68719476736:=om
  have ba:=Q4 _ (Nd.mk 2 false bO (a.map AW.key) q.1) a3 (le_refl _);have hup:=tUp _ (Nd.mk 2 false bO (a.map AW.key) q.1) a3 (le_refl _);have aw:AC (knR (a.map AW.key) (q.1.map λy => .ab y.aj)) (Nd.mk 2 false bO (a.map AW.key) q.1).aj:=
   AC.agg (AA.cons (aG _) (AA.cons (aG _) (AA.cons (aG _) (AA.cons (aG _) (AA.cons (aG _) (AA.cons (AC.no (AA.eq (sC _ _ _ _).symm)) (AA.cons (AC.no (AA.eq (wQ _ _ _ _).symm)) (AA.cons (AC.no (aD _)) (AA.cons (aG _)
    (AA.cons (AC.no (AA.eq Yr)) (aD _)))))))))))
  have aj:(kI q.2.R).length=q.2.R.length:=by unfold kI;rw[length_map]
  have p:AV.slice (((kI q.2.R).take q.2.R.length).drop 0) .no = .slice (kI q.2.R) .no:=Zl
  have ax:AA [.slice (q.2.F.map A0.C) (.own 2 2)] [.slice (q.2.F.map A0.C) .no]:=AA.cons (AC.no (aD _)) (aD _);unfold Cq sF xS xP rnR wkR;generalize Nd.mk 2 false bO (a.map AW.key) q.1=nd at *
  generalize knR (a.map AW.key) (q.1.map λy => .ab y.aj)=kn at *
  repeat' first|refine f8 3 0 rfl rfl (AJ.trans (eP (k:=3) rfl aw rfl) (aY (k:=3) (n:=1) (j:=0))) rfl ?_|refine f8 1 1 rfl rfl (AJ.trans (b6 (k:=4) (lo:=0) (X:=q.2.R.length) rfl aj rfl) (AJ.a6 (AC.eq p))) rfl ?_|refine aH (hw:=ax) b ?_|refine .s1 ?_|(refine .q ?_ ?_<;>intro O)|refine bZ ?_|fail
  exact aO
structure BL(st st': AT):Prop where
 c:st.c<=st'.c
 f:∀f∈st'.F,f∈st.F\/f.path.length<=st'.c
def OA(st:AT):BL st st:=⟨le_refl _,λf h => .inl h⟩
theorem BL.trans{a b c:AT}(h:BL a b)(k:BL b c):BL a c:=⟨le_trans h.c k.c,λf hf=>by
 rcases k.f f hf with h1|h1
 ·rcases h.f f h1 with h2|h2
  ·exact .inl h2
  ·exact .inr (le_trans h2 k.c)
 ·exact .inr h1⟩
theorem BL.ag(st:AT):BL st st.ag:=⟨Nat.le_succ _,λf h => .inl h⟩
theorem BL.bad{p:Ac}(h:p.length<=st.c)(e:Int):BL st (st.bad p e):=⟨le_refl _,λf hf=>by
 rcases List.mem_append.1 hf with h1|h1
 ·exact .inl h1
 ·rw[mem_singleton.1 h1];exact .inr h⟩
theorem BL.read(st:AT)(n:Aa):BL st (st.read n):=⟨le_refl _,λf h => .inl h⟩
def B5(pl:Pl):Prop:=∀u row w p m st,p.length<=st.c->BL st (pl u row w p m st).2
mutual
theorem zQ(s:AI)(pl:Pl)(hpl:B5 pl)(tb:AF)(w:List Sl):∀(v:AH) (t:Ae) (p:Ac) (st:AT),p.length<=st.c->BL st (dL s pl tb w v t p st).2
 | .mk k n str l m,t,p,st,h=>by
  have ht:=BL.ag st
  have hb:∀e,BL st (st.ag.bad p e):=λe=>ht.trans (BL.bad (le_succ_of_le h) e)
  have hr:BL st (st.ag.read ⟨tb,str⟩):=ht.trans (BL.read _ _)
  rw[dL]
  dsimp only
  split
  ·split
   ·exact hb 9
   ·exact ht
  split
  ·split
   ·exact hb 7
   ·exact ht.trans (GJ s pl hpl tb w l (b7 t) p 0 st.ag (Nat.succ_le_succ h))
  split
  ·split
   ·exact hb _
   ·exact ht
  split
  ·exact hb 7
  unfold w9
  split
  ·exact hr.trans (BL.bad (le_succ_of_le h) _)
  split
  ·split
   ·exact hr.trans (BL.bad (le_succ_of_le h) _)
   ·exact hr
  split
  ·exact hr.trans (BL.bad (le_succ_of_le h) _)
  ·exact hr.trans (hpl _ _ _ _ _ _ (le_succ_of_le h))
theorem GJ(s:AI)(pl:Pl)(hpl:B5 pl)(tb:AF)(w:List Sl):∀(l:List AH) (t:Ae) (p:Ac) (i:Nat) (st:AT),p.length+1<=st.c->BL st (cD s pl tb w l t p i st).2
 |[],_,_,_,st,_=>by rw[cD];exact OA _
 |v::l,t,p,i,st,h=>by
  rw[cD]
  have h1:=zQ s pl hpl tb w v t (p++[⟨[],i⟩]) st (by rw[length_append];exact h)
  exact h1.trans (GJ s pl hpl tb w l t p (i+1) _ (le_trans h h1.c))
end
def MX(s:AI)(d:AR)(A:List AG)(pl:Pl)(hpl:B5 pl)(a:Bool)(u:AF)(row:Row)(g:AW)(p:Ac)(st:AT)(h:p.length<=st.c):BL st (cA s d A pl a u row g p st).2:=by
 have ht:=BL.ag st;have hb:∀e,BL st (st.ag.bad p e):=λe=>ht.trans (BL.bad (le_succ_of_le h) e)
 unfold cA;dsimp only;split
 ·exact ht
 split
 ·exact hb _
 split
 ·split
  ·have b:∀L,BL st ⟨L,st.ag.F,st.ag.R++[[]],st.ag.c⟩:=λL=>⟨ht.c,ht.f⟩
   split
   ·exact(b _).trans (BL.bad (le_succ_of_le h) _)
   ·exact(b _).trans (zQ s pl hpl _ _ _ _ _ _ (le_succ_of_le h))
  ·exact hb 14
 ·exact ht.trans (zQ s pl hpl _ _ _ _ _ _ (le_succ_of_le h))
def Iw{α:Type}(a:α->AT->Nd×AT)(n:Nat)(hf:∀g st,n<=st.c->BL st (a g st).2):∀(l:List α) (st:AT),n<=st.c->BL st (bX a l st).2
 |[],st,_=>OA st
 |g::l,st,h=>(hf g st h).trans (Iw a n hf l _ (le_trans h (hf g st h).c))
def zR(s:AI)(d:AR)(A:List AG):∀(n:Nat) (a:Bool),B5 (bV s d A n a)
 |0,a=>λu row w p m st h=>⟨Nat.le_add_right _ _,λf hf => .inl hf⟩
 |n+1,a=>λu row w p m st h=>by
  rw[bV]
  exact(BL.ag st).trans (Iw _ (p.length+1) (λg st h=>MX s d A _ (zR s d A n false) a u row g _ st (by rw[length_append];exact h)) _ _ (Nat.succ_le_succ h))
end Go.Proofs.YtdodieljpcfpcaaGreatDoor
namespace Go.Av
open Go Go.Proofs.YtdodieljpcfpcaaGreatDoor
variable [AK]
abbrev vz(L:List A4):St:=⟨[],[.Y (L.map A4.C)]⟩
abbrev vv(n:Nat):AV := .Y 0 2 n 0 n
def SE(P:Program)(f:FuncId)(n:Nat)(args:List AV):Prop:=
 ∀L:List A4,L.length=n->∃L': List A4,L'.length=n/\AQ P f args (vz L) (λe H=>e = .ret (.tup [])/\H=vz L')
def aC9(P:Program):Prop:=∀a b:A4,∃r:Int,AN P 71 [a.C,b.C] (.int .i64 r)
section
variable {P:Program} [Lay P] {A:Array Oper} {G:Bool} {K:AX->AE->St->Prop} {C:List Oper} {I:List Ak} {s:AE} {H:St} {d:Tmp} {dst:Option Tmp} {R:TypeId} {D:String} {S:Array Edge} {n:Nat} {L:List A4} {T:TypeId}
def AD.vI{i:Operand}{te:TI}(k:AD P A G K C (.pure::I) ((d, .an 0 2 n m.toNat 0)::s) H)(hT:ty? P T=some ti:=by exact rfl)(hk:ti.kind = .slice:=by exact rfl)(hE:ty? P ti.elem=some te:=by exact rfl)(hz:Nat.beq te.size 2=true:=by exact rfl)(Y:ev? s x=some (vv n):=by exact rfl)(X:ev? s i=some (.int .i64 m):=by exact rfl)(h:0<=m/\m<n:=by omega):
  AD P A G K (⟨some d, .indexAddr T x i,R,D,S,none⟩::C) I s H:=fM (j:=m.toNat) (hT:=hT) (hk:=hk) (hE:=hE) (hz:=hz) (Y:=Y) (hi':= X) (hj:=by omega) (hlt:=by omega) k
def AD.vL(k:∀f:A4,AD P A G K C (.rt::I) ((d,f.C)::s) H)(hT:ty? P T=some ti:=by exact rfl)(Y:ev? s x=some (.an 0 2 n j 0):=by exact rfl)(hσ:H=vz L:=by exact rfl)(a:L.length=n:=by assumption)(h:j<n:=by omega)(ha:ti.agg=true:=by exact rfl)(hz:ti.size=2:=by exact rfl):
  AD P A G K (⟨some d, .load T x,R,D,S,none⟩::C) I s H:=by
 have hj:j<L.length:=om
 exact fF (hT:=hT) (Y:=Y) (hTk:=by rw[hσ];rfl) (hn:=by rw[length_map];exact a) (hy:=show (L.map A4.C)[j]? =some L[j].C by simp[hj]) (hv:=(by rw[ha,hz];rfl)) (k L[j])
def AD.vS{f:A4}(k:∀L': List A4,L'.length=n->AD P A G K C (.tk::I) s (vz L'))(hT:ty? P T=some ti:=by exact rfl)(Y:ev? s x=some (.an 0 2 n j 0):=by exact rfl)(hy:ev? s y=some f.C:=by exact rfl)(hσ:H=vz L:=by exact rfl)(a:L.length=n:=by assumption)(h:j<n:=by omega)(ha:ti.agg=true:=by exact rfl)(hz:ti.size=2:=by exact rfl):
  AD P A G K (⟨none, .store T x y,R,D,S,none⟩::C) I s H:=by
 have hj:j<L.length:=om
 subst hσ;exact aX (agg:=true) (e1:=f.C) (hT:=hT) (Y:=Y) (hy:=hy) (hf:=(by rw[ha,hz];rfl)) (hTk:=Eq.refl _) (hn:=by rw[length_map];exact a) (he:=show (L.map A4.C)[j]? =some L[j].C by simp[hj]) (hz:=Eq.refl _) (hpos:=by rw[hz];rfl) (hv:=Eq.refl _) (hT':= Eq.refl _) (by rw[<-List.map_set];exact k _ W5)
def AD.vC{args:Array Operand}{p:Array TypeId}{a b:A4}(k:∀r:Int,AD P A G K C (.pure::I) (iJ dst (.int .i64 r) s) H)(h:aC9 P:=by assumption)(Y:ev? s x=some fcl:=by exact rfl)(ha:j7 s args.toList some=some [a.C,b.C]:=by exact rfl):AD P A G K (⟨dst, .call ⟨.value x,args,p⟩,R,D,S,none⟩::C) I s H:=
 let ⟨r,hr⟩:=h a b
 Ce (Y:=Y) (ha:=ha) hr (aD _) (k r)
theorem AD.sc{f:FuncId}{args:Array Operand}{p:Array TypeId}{J:List AV}(k:∀L': List A4,L'.length=n->AD P A G K C (.all::I) (iJ dst (.tup []) s) (vz L'))(ha:j7 s args.toList some=some J:=by exact rfl)(hσ:H=vz L:=by exact rfl)(a:L.length=n:=by assumption)(hl:aE 0 1 J=true:=by exact rfl)(hw:aW (emb 0 []) (emb 1 [0]) J=J:=by exact rfl)(hp:SE P f n J):
  AD P A G K (⟨dst, .call ⟨.value (.func f),args,p⟩,R,D,S,none⟩::C) I s H:=by obtain⟨L', h1,h2⟩:=hp L a;subst hσ;exact Ja (ha:=ha) (hw:=by show AA J (aW (emb 0 []) (emb 1 [0]) J);rw[hw];exact aD _) 0 h2 (nU _) (nU _) hl rfl (k L' h1)
theorem AD.c6{tU:TI}(b:AD P A G K C (.pure::I) ((d, .int .u64 m)::s) H)(hT:ty? P T=some ti:=by exact rfl)(a:ty? P U=some tU:=by exact rfl)(hk:tU.kind = .int .u64:=by exact rfl)(Y:ev? s x=some (.int .i64 m):=by exact rfl)(h:0<=m/\m<4611686018427387904:=by omega):AD P A G K (⟨some d, .convert T U x,R,D,S,none⟩::C) I s H:=gE hT a hk Y (IntWalk.u64_in _ om) b
def AD.c7{tU:TI}(b:AD P A G K C (.pure::I) ((d, .int .i64 m)::s) H)(hT:ty? P T=some ti:=by exact rfl)(a:ty? P U=some tU:=by exact rfl)(hk:tU.kind = .int .i64:=by exact rfl)(Y:ev? s x=some (.int .u64 m):=by exact rfl)(h:0<=m/\m<4611686018427387904:=by omega):AD P A G K (⟨some d, .convert T U x,R,D,S,none⟩::C) I s H:=gE hT a hk Y (IntWalk.i64_in _ om) b
theorem AD.hf{T U:TypeId}(a:AD P A G K C (.pure::I) ((d, .int .u64 (m/2))::s) H)(Y:ev? s x=some (.int .u64 m):=by exact rfl):AD P A G K (⟨some d, .binOp .shr T x (.const (.int .u64 1)) U,R,D,S,none⟩::C) I s H:=VA Y rfl a
def AD.ml{a b:Int}(c:AD P A G K C (.pure::I) ((d, .int .i64 (a * b))::s) H)(Y:ev? s x=some (.int .i64 a):=by exact rfl)(hy:ev? s y=some (.int .i64 b):=by exact rfl)(hb : -9223372036854775808<=a * b/\a * b<=9223372036854775807:=by omega):AD P A G K (⟨some d, .binOp .mul T x y U,R,D,S,none⟩::C) I s H:=NE Y hy rfl hb c
def AD.gd{a:Op}[Decidable p](b:p->decide p=true->AD P A G K (⟨dst,a,R,D,S,none⟩::C) I s H)(c:¬p->decide p=false->AD P A G K C (.pure::I) (iJ dst (.tup []) s) H)(h:yv A s j=some (.bool (decide p)):=by exact rfl):
  AD P A G K (⟨dst,a,R,D,S,some (j,true)⟩::C) I s H:=fL h (λe=>b Yv e) (λe=>have e:decide p=false:=by simpa using e
  c Yv e)
end
section
variable {P:Program} [Lay P] {N:Nat} {D:List Deferred} {c:Code} {K:AX->AE->St->Prop} {s:AE} {H:St} {n:Nat} {L:List A4}
def EX.qd{y z:Code}[Decidable p](ht:p->decide p=true->EX P N D y K s H)(hf:¬p->decide p=false->EX P N D z K s H)(O:ev s x = .bool (decide p):=by exact rfl):EX P N D (.cond x y z) K s H := .q (λh=>ht Wp h) (λh=>hf Wp h) O
def EX.qn{y z:Code}{a b:Int}(ht:a≠b->EX P N D y K s H)(hf:a=b->EX P N D z K s H)(O:ev s x = .bool (a != b):=by exact rfl):EX P N D (.cond x y z) K s H := .q (λh=>ht Wp) (λh=>hf Wp) O
structure Sn(n:Nat){ι:Type}(I:ι->Prop)(S:ι->AE)(μ:ι->Nat)(i:ι)(s': AE)(σ': St):Prop where
 ex:∃j,I j/\μ j<μ i/\Sub (S j) s'/\ ∃L:List A4,L.length=n/\(⟨σ'.B.take 0,σ'.T.take 1⟩:St)=vz L
def EX.sl{ι:Type}(I:ι->Prop)(S:ι->AE)(μ:ι->Nat)(i0:ι)(a:∀i,I i->∀L:List A4,L.length=n->EX P N D c (thn (Sn n I S μ i) K) (S i) (vz L))(h0:I i0:=by (try dsimp only);omega)(hs:Sub (S i0) s:=by (repeat' first|exact trivial|refine⟨rfl, ?_⟩))(hσ:H=vz L:=by exact rfl)(f:L.length=n:=by assumption)
  (hS:∀i,aM 0 1 (S i)=true:=by intro i;rfl):EX P N D (.loop c) K s H:=by
 subst hσ;refine EX.loop (λm g b=>∃i,m=μ i/\I i/\g=S i/\∃L:List A4,L.length=n/\b=vz L) hs ⟨i0,rfl,h0,rfl,L,f,rfl⟩ ?_;rintro m g b ⟨i,rfl,X,rfl,L,f,rfl⟩;refine(a i X L f).mono λe s' σ' h=> ?_
 cases e with
 |normal=>
  obtain⟨j,h1,h2,h3,L', h4,d⟩:=h.ex;have hb:aM 0 1 (S j)=true/\(aQ 0 1 (σ'.B.take 0)&&aL 0 1 (σ'.T.take 1))=true:=⟨hS j,by rw[show σ'.B.take 0=[] from congrArg St.B d,show σ'.T.take 1=_ from congrArg St.T d];simp only[aQ,aL,Tok.aa,E7,Bool.true_and,Bool.and_true]⟩
  exact⟨μ j,h2,S j,h3,hb.1,hb.2,j,rfl,h1,rfl,L', h4,d⟩
 |_=>exact h
theorem EX.s2(I:Int->Int->Prop)(S:Int->Int->AE)(μ:Int->Int->Nat)(b j0:Int)(a:∀i j,I i j->∀L:List A4,L.length=n->EX P N D c (thn (Sn n (λp:Int×Int=>I p.1 p.2) (λp=>S p.1 p.2) (λp=>μ p.1 p.2) (i,j)) K) (S i j) (vz L))(h0:I b j0:=by (try dsimp only);omega)(hs:Sub (S b j0) s:=by (repeat' first|exact trivial|refine⟨rfl, ?_⟩))(hσ:H=vz L:=by exact rfl)(d:L.length=n:=by assumption)
  (hS:∀i j,aM 0 1 (S i j)=true:=by intro i j;rfl):EX P N D (.loop c) K s H := .sl (λp:Int×Int=>I p.1 p.2) (λp=>S p.1 p.2) (λp=>μ p.1 p.2) (b,j0) (λp=>a p.1 p.2) h0 hs hσ d (λp=>hS p.1 p.2)
def sn{ι:Type}{I:ι->Prop}{S:ι->AE}{μ:ι->Nat}{i:ι}(j:ι)(hs:Sub (S j) s:=by (repeat' first|exact trivial|refine⟨rfl, ?_⟩))(b:I j:=by (try dsimp only);omega)(a:μ j<μ i:=by (try dsimp only);omega)(hσ:(⟨H.B.take 0,H.T.take 1⟩:St)=vz L:=by exact rfl)(c:L.length=n:=by assumption):Sn n I S μ i s H:=⟨j,b,a,hs,L,c,hσ⟩
def es(hσ:(⟨H.B.take 0,H.T.take 1⟩:St)=vz L:=by exact rfl)(a:L.length=n:=by assumption):∃L': List A4,L'.length=n/\Av.ret (gK s []) = .ret (.tup [])/\(⟨H.B.take 0,H.T.take 1⟩:St)=vz L':= ⟨L,a,rfl,hσ⟩
def se{f:FuncId}{fn:Func}{args:List AV}(hf:P.funcs[f]? =some fn)(h:∀L:List A4,L.length=n->EX P N [] c (fin [] (λe σ'=> ∃L': List A4,L'.length=n/\e = .ret (.tup [])/\(⟨σ'.B.take 0,σ'.T.take 1⟩:St)=vz L')) (cB 0 args) (vz L))
  (hb:fn.body=some c:=by exact rfl) (p:fn.ntmps=N:=by exact rfl) (j:(fn.name == "runtime.NumGoroutine")=false:=by exact rfl) (i:Nat.ble args.length N=true:=by exact rfl) (k:fn.results=([].map ResultVar.tmp).toArray:=by exact rfl):SE P f n args:=λL o=>by
 by_cases hr:BC N [] (cB 0 args) (vz L)
 ·obtain⟨e,s', σ', hk,O⟩:=h L o hr
  have m:∀L': List A4,L'.length=n->(⟨σ'.B.take 0,σ'.T.take 1⟩:St)=vz L'-> (e = .normal\/e = .ret)->∃L': List A4,L'.length=n/\AQ P f args (vz L) (λe H=>e = .ret (.tup [])/\H=vz L'):=λL' h1 h2 he=>
   ⟨L', h1,kV (AQ.enter [] hf hb p j i k Wa (O.mono λe1 t d ⟨a,b,c⟩=>by
    subst a b c
    have r:∃v nB mT,Av.ret (gK t []) = .ret v/\0<=nB/\1<=mT/\v.aa nB mT=true/\aQ nB mT (d.B.take nB)=true/\aL nB mT (d.T.take mT)=true/\(Av.ret v = .ret (.tup [])/\(⟨d.B.take nB,d.T.take mT⟩:St)=vz L'):=
     ⟨_,0,1,rfl,le_refl _,le_refl _,rfl,by rw[show d.B.take 0=[] from congrArg St.B h2];rfl,by rw[show d.T.take 1=_ from congrArg St.T h2];simp only[aL,Tok.aa,E7,Bool.and_true],rfl,h2⟩
    rcases he with rfl|rfl<;>exact r))⟩
  cases e with
  |normal=>obtain⟨L', h1,_,h3⟩:=hk;exact m L' h1 h3 (.inl rfl)
  |ret=>obtain⟨L', h1,_,h3⟩:=hk;exact m L' h1 h3 (.inr rfl)
  |pan x=>obtain⟨L', _,h2,_⟩:=hk;cases h2
  |exit id=>exact hk.elim
  |goto l=>exact hk.elim
 ·exact⟨L,o,AQ.enter [] hf hb p j i k Wa λg w q X hs h1 h2=>absurd ⟨g,w,q,X,hs,h1,h2⟩ hr⟩
def AD.vk{A:Array Oper}{G:Bool}{l:List Oper}{I:List Ak}{Q:Prop}(q:Q)(h:BY Q->AD P A G K l I s H:=by intro q;(first|refine .vI ?_|refine .vL ?_|refine .vS ?_|refine .vC ?_|refine .c6 ?_|refine .c7 ?_|refine .hf ?_|refine .ml ?_|fail);exact q.val):AD P A G K l I s H:=h ⟨q⟩
theorem cs(h:p:=by first|exact es|exact sn (_,_)|exact sn _|(exfalso;omega)|fail):p:=h
end
end Go.Av
namespace Go.Proofs.YtdodieljpcfpcaaGreatDoor
open Go Go.Av Go.Proofs.Tryz
attribute [local irreducible] AB AD AN AQ Av.AS AZ EX Int.le Int.lt Int.decLe Int.decLt Int.decEq SE
variable {N:Nat}
theorem Df:aC9 prog:=λa b=>⟨_,TO a b⟩
def aCa(d:N<=1048576)(a b n:Int)(h:0<=a/\0<=b/\0<=n/\a+n<=N/\b+n<=N):SE prog 303 N [vv N, .int .i64 a, .int .i64 b, .int .i64 n,fcl]:=by
 refine se func303 λL c=> ?_
 repeat' first|intro _|refine .vk ?_|refine .v ?_|refine .qd ?_ ?_|refine .qe ?_ ?_|refine .qn ?_ ?_|refine .gd ?_ ?_|refine .z ?_ ?_|exact cs|fail
 refine .sl (λi:Int=>0<=i) (λi=>[(10, .int .i64 i),(0,vv N),(1, .int .i64 a),(2, .int .i64 b),(3, .int .i64 n)]) (λi=>(n-i).toNat) 0 ?_
 repeat' first|intro _|refine .vk ?_|refine .v ?_|refine .qd ?_ ?_|refine .qe ?_ ?_|refine .qn ?_ ?_|refine .gd ?_ ?_|refine .z ?_ ?_|exact cs|fail
def aCb(c:N<=1048576)(a m b:Int)(h:0<=a/\a<m/\m<b/\b<=N):SE prog 256 N [vv N, .int .i64 a, .int .i64 m, .int .i64 b,fcl]:=by
 refine se func256 λL d=> ?_
 repeat' first|intro _|refine .vk ?_|refine .v ?_|refine .qd ?_ ?_|refine .qe ?_ ?_|refine .qn ?_ ?_|refine .gd ?_ ?_|refine .z ?_ ?_|exact cs|fail
 refine .s2 (λi j=>0<i/\0<j/\i<=m/\m+j<=N) (λi j=>[(10, .int .i64 i),(11, .int .i64 j),(0,vv N),(2, .int .i64 m),(4,fcl)]) (λi j=>(i+j).toNat) (m-a) (b-m) ?_
 repeat' first|intro _|refine .vk ?_|refine .sc ?_ (hp:=aCa c _ _ _ om)|refine .v ?_|refine .qd ?_ ?_|refine .qe ?_ ?_|refine .qn ?_ ?_|refine .gd ?_ ?_|refine .z ?_ ?_|exact cs|fail
def aDo(d:N<=1048576)(a b:Int)(h:0<=a/\a<=b/\b<=N):SE prog 188 N [vv N, .int .i64 a, .int .i64 b,fcl]:=by
 have O:=Df;refine se func188 λL c=> ?_
 repeat' first|intro _|refine .vk ?_|refine .v ?_|refine .qd ?_ ?_|refine .qe ?_ ?_|refine .qn ?_ ?_|refine .gd ?_ ?_|refine .z ?_ ?_|exact cs|fail
 refine .sl (λi:Int=>a+1<=i) (λi=>[(8, .int .i64 i),(0,vv N),(1, .int .i64 a),(2, .int .i64 b),(3,fcl)]) (λi=>(b-i).toNat) (a+1) ?_;intro i X L c
 repeat' first|intro _|refine .vk ?_|refine .v ?_|refine .qd ?_ ?_|refine .qe ?_ ?_|refine .qn ?_ ?_|refine .gd ?_ ?_|refine .z ?_ ?_|exact cs|fail
 refine .sl (λj:Int=>a<=j/\j<b) (λj=>[(9, .int .i64 j),(8, .int .i64 i),(0,vv N),(1, .int .i64 a),(2, .int .i64 b),(3,fcl)]) (λj=>(j-a).toNat) i ?_
 repeat' first|intro _|refine .vk ?_|refine .v ?_|refine .qd ?_ ?_|refine .qe ?_ ?_|refine .qn ?_ ?_|refine .gd ?_ ?_|refine .z ?_ ?_|exact cs|fail
def eSm(c:N<=1048576):∀(k:Nat) (a m b:Int),0<=a/\a<m/\m<b/\b<=N->b-a<=k->SE prog 189 N [vv N, .int .i64 a, .int .i64 m, .int .i64 b,fcl]
 |0,a,m,b,h,hk=>by omega
 |k+1,a,m,b,h,hk=>by
  have O:=Df
  have E:=eSm c k
  refine se func189 λL d=> ?_
  repeat' first|intro _|refine .vk ?_|refine .v ?_|refine .qd ?_ ?_|refine .qe ?_ ?_|refine .qn ?_ ?_|refine .gd ?_ ?_|refine .z ?_ ?_|exact cs|fail
  ·refine .s2 (λi j=>m<=i/\i<=j/\j<=b) (λi j=>[(10, .int .i64 i),(11, .int .i64 j),(0,vv N),(1, .int .i64 a),(4,fcl)]) (λi j=>(j-i).toNat) m b ?_
   repeat' first|intro _|refine .vk ?_|refine .v ?_|refine .qd ?_ ?_|refine .qe ?_ ?_|refine .qn ?_ ?_|refine .gd ?_ ?_|refine .z ?_ ?_|exact cs|fail
   rename_i i j _ _ _ _ _
   refine .sl (λt:Int=>a<=t) (λt=>[(13, .int .i64 t),(10, .int .i64 i),(0,vv N)]) (λt=>(i-t).toNat) a ?_
   repeat' first|intro _|refine .vk ?_|refine .v ?_|refine .qd ?_ ?_|refine .qe ?_ ?_|refine .qn ?_ ?_|refine .gd ?_ ?_|refine .z ?_ ?_|exact cs|fail
  ·refine .s2 (λi j=>a<=i/\i<=j/\j<=m) (λi j=>[(14, .int .i64 i),(15, .int .i64 j),(0,vv N),(2, .int .i64 m),(4,fcl)]) (λi j=>(j-i).toNat) a m ?_
   repeat' first|intro _|refine .vk ?_|refine .v ?_|refine .qd ?_ ?_|refine .qe ?_ ?_|refine .qn ?_ ?_|refine .gd ?_ ?_|refine .z ?_ ?_|exact cs|fail
   rename_i i j _ _ _ _ _
   refine .sl (λt:Int=>t<=m) (λt=>[(17, .int .i64 t),(14, .int .i64 i),(0,vv N)]) (λt=>(t-i).toNat) m ?_
   repeat' first|intro _|refine .vk ?_|refine .v ?_|refine .qd ?_ ?_|refine .qe ?_ ?_|refine .qn ?_ ?_|refine .gd ?_ ?_|refine .z ?_ ?_|exact cs|fail
  ·refine .s2 (λi j=>(a+b)/2+m-b<=i/\i<=j/\j<=(a+b)/2) (λi j=>[(20, .int .i64 i),(21, .int .i64 j),(22, .int .i64 ((a+b)/2+m-1)),(18, .int .i64 ((a+b)/2)),(19, .int .i64 ((a+b)/2+m)),(0,vv N),(1, .int .i64 a),(2, .int .i64 m),(3, .int .i64 b),(4,fcl)]) (λi j=>(j-i).toNat) ((a+b)/2+m-b) ((a+b)/2) ?_
   repeat' first|intro _|refine .vk ?_|refine .sc ?_ (hp:=aCb c _ _ _ om)|refine .sc ?_ (hp:=E _ _ _ om om)|refine .v ?_|refine .qd ?_ ?_|refine .qe ?_ ?_|refine .qn ?_ ?_|refine .gd ?_ ?_|refine .z ?_ ?_|exact cs|fail
  ·refine .s2 (λi j=>a<=i/\i<=j/\j<=m) (λi j=>[(20, .int .i64 i),(21, .int .i64 j),(22, .int .i64 ((a+b)/2+m-1)),(18, .int .i64 ((a+b)/2)),(19, .int .i64 ((a+b)/2+m)),(0,vv N),(1, .int .i64 a),(2, .int .i64 m),(3, .int .i64 b),(4,fcl)]) (λi j=>(j-i).toNat) (a) (m) ?_
   repeat' first|intro _|refine .vk ?_|refine .sc ?_ (hp:=aCb c _ _ _ om)|refine .sc ?_ (hp:=E _ _ _ om om)|refine .v ?_|refine .qd ?_ ?_|refine .qe ?_ ?_|refine .qn ?_ ?_|refine .gd ?_ ?_|refine .z ?_ ?_|exact cs|fail
end Go.Proofs.YtdodieljpcfpcaaGreatDoor
namespace Go.Proofs.YtdodieljpcfpcaaGreatDoor
open Go Go.Av Go.Proofs.Tryz
attribute [local irreducible] AB AD AN AQ Av.AS AZ EX Int.le Int.lt Int.decLe Int.decLt Int.decEq
variable {N:Nat}
def UC(c:N<=1048576):SE prog 124 N [vv N, .int .i64 N,fcl]:=by
 refine se func124 λL d=> ?_
 repeat' first|intro _|refine .vk ?_|refine .v ?_|refine .qd ?_ ?_|refine .qe ?_ ?_|refine .qn ?_ ?_|refine .gd ?_ ?_|exact cs|fail
 refine .s2 (λa b=>0<=a/\a<=N/\b=a+20) (λa b=>[(7, .int .i64 a),(8, .int .i64 b),(6, .int .i64 20),(0,vv N),(1, .int .i64 N),(2,fcl)]) (λa b=>(N-a).toNat) 0 20 ?_
 repeat' first|intro _|refine .vk ?_|refine .sc ?_ (hp:=aDo c _ _ om)|refine .v ?_|refine .qd ?_ ?_|refine .qe ?_ ?_|refine .qn ?_ ?_|refine .gd ?_ ?_|exact cs|fail
 refine .sl (λw:Int=>0<w) (λw=>[(6, .int .i64 w),(0,vv N),(1, .int .i64 N),(2,fcl)]) (λw=>(N-w).toNat) 20 ?_;intro w hw L d
 repeat' first|intro _|refine .vk ?_|refine .v ?_|refine .qd ?_ ?_|refine .qe ?_ ?_|refine .qn ?_ ?_|refine .gd ?_ ?_|exact cs|fail
 refine .s2 (λa b=>0<=a/\a<=N/\b=a+2 * w) (λa b=>[(7, .int .i64 a),(8, .int .i64 b),(6, .int .i64 w),(0,vv N),(1, .int .i64 N),(2,fcl)]) (λa b=>(N-a).toNat) 0 (2 * w) ?_
 repeat' first|intro _|refine .vk ?_|refine .sc ?_ (hp:=eSm c N _ _ _ om om)|refine .v ?_|refine .qd ?_ ?_|refine .qe ?_ ?_|refine .qn ?_ ?_|refine .gd ?_ ?_|exact cs|fail
def aCc(a:N<=1048576):SE prog 70 N [vv N,fcl]:=by
 refine se func70 λL b=> ?_
 repeat' first|intro _|refine .vk ?_|refine .vl ?_|refine .sc ?_ (hp:=UC a)|refine .v ?_|refine .qd ?_ ?_|refine .qe ?_ ?_|refine .qn ?_ ?_|refine .gd ?_ ?_|exact cs|fail
def ePS(l:List A4)(hl:l.length<=1048576)(ha:∀f∈l,f.path.length<=1048576):∃G:List A4,G.length=l.length/\AN prog 32 [Flts.C l] (Flts.C G):=by
 obtain⟨G,a,d⟩:=aCc hl l rfl;refine⟨G,a, ?_⟩;refine jI (Flts.K _) (by simp[aB,Flts.K]) (cK [2] func32 ?_)
 repeat' first|refine .seq ?_|refine .rg ?_|refine .rd ?_|refine .block ?_|refine .scope ?_|refine .skip ?_|refine .label ?_|refine .exit ?_|refine .ret ?_|refine .ct ?_|refine .cf ?_|refine .cy ?_|refine .cn ?_|(refine .cond rfl ?_ ?_<;>intro O)|refine cS ?_|refine .nl ?_|refine .dd ?_|refine .ys ?_|refine .no ?_|(refine fL rfl ?_ ?_<;>intro O)|refine .lb ?_|refine .ln ?_|refine .ls ?_|refine .pv ?_|refine .ix ?_|refine .pt ?_|refine .pf ?_|refine .bx ?_|refine .al ?_|refine .st ?_|refine .ad ?_|refine .sb ?_|refine .mf ?_|refine .cl ?_|refine .cw ?_|refine .ck ?_|fail
 change AB _ _ _ _ _ _ _;refine bY 3 rfl (kE (z:=2) rfl rfl rfl) ?_;refine AB.loop (λn s H=>∃k:Nat,n=l.length-k/\k<=l.length/\H=⟨[],[.Y ((l.take k).map A4.C)]⟩/\s=[(8, .int .i64 k),(7, .int .i64 l.length),(6,Flts.C l),(3, .Y 0 2 k 0 k)])
  (s0:=[(8, .int .i64 (0:Nat)),(7, .int .i64 l.length),(6,Flts.C l),(3, .Y 0 2 0 0 0)])
  Z0 ⟨0,rfl,zero_le _,rfl,rfl⟩ ?_
 rintro n s H ⟨k,rfl,hk,rfl,rfl⟩;have b:((l.take k).map A4.C).length=k:=Wh
 by_cases h1:k<l.length
 ·have e:=ltT h1;have x1:=Jo (f:=A4.C) h1;have O:=Py l[k].path (ha _ (getElem_mem h1))
  repeat' first|refine .seq ?_|refine .rg ?_|refine .rd ?_|refine .block ?_|refine .scope ?_|refine .skip ?_|refine .label ?_|refine .exit ?_|refine .ret ?_|refine .ct ?_|refine .cf ?_|refine .cy ?_|refine .cn ?_|(refine .cond rfl ?_ ?_<;>intro O)|refine cS ?_|refine .nl ?_|refine .dd ?_|refine .ys ?_|refine .no ?_|(refine fL rfl ?_ ?_<;>intro O)|refine .lb ?_|refine .ln ?_|refine .ls ?_|refine .pv ?_|refine .ix ?_|refine .pt ?_|refine .pf ?_|refine .bx ?_|refine .al ?_|refine .st ?_|refine .ad ?_|refine .sb ?_|refine .mf ?_|refine .cl ?_|refine .cw ?_|refine .ck ?_|refine aH O ?_|refine eI (m:=k+1) (hb':= by omega) b ?_|fail
  refine⟨l.length-(k+1),om,[(8, .int .i64 ((k+1:Nat):Int)),(7, .int .i64 l.length),(6,Flts.C l),(3, .Y 0 2 (k+1) 0 (k+1))],
   Z0,by simp[aM,AV.aa,Flts.C,E7], ?_,k+1,rfl,om, ?_,rfl⟩
  ·have hp:=E7 0 1 (l.take k);have hs:=NT 0 1 l[k].path;simp[-List.map_take,aQ,aL,Ob.aa,Tok.aa,aE,AV.aa,H5,hp,hs,Ac.C]
  ·rw[<-Mv A4.C h1];rfl
 ·have e:=ltF h1;have c:k=l.length:=om
  subst c;have hlt:l.take l.length=l:=take_length;rw[hlt]
  repeat' first|refine .seq ?_|refine .rg ?_|refine .rd ?_|refine .block ?_|refine .scope ?_|refine .skip ?_|refine .label ?_|refine .exit ?_|refine .ret ?_|refine .ct ?_|refine .cf ?_|refine .cy ?_|refine .cn ?_|(refine .cond rfl ?_ ?_<;>intro O)|refine cS ?_|refine .nl ?_|refine .dd ?_|refine .ys ?_|refine .no ?_|(refine fL rfl ?_ ?_<;>intro O)|refine .lb ?_|refine .ln ?_|refine .ls ?_|refine .pv ?_|refine .ix ?_|refine .pt ?_|refine .pf ?_|refine .bx ?_|refine .al ?_|refine .st ?_|refine .ad ?_|refine .sb ?_|refine .mf ?_|refine .cl ?_|refine .cw ?_|refine .ck ?_|refine Ja 0 d (nU _) (nU _) rfl rfl ?_|fail
  exact⟨_,_,rfl,(b6 rfl W5 rfl).trans (AJ.a6 (AC.no (AA.eq (by rw[List.drop_zero,List.take_of_length_le W5]))))⟩
end Go.Proofs.YtdodieljpcfpcaaGreatDoor
namespace Go.Proofs.YtdodieljpcfpcaaGreatDoor
open Go Go.Av Go.Proofs.Tryz
attribute [local irreducible] AB AD AN AQ Av.AS AZ
def aAb(F:List A0)(hl:F.length<=4096)(hp:∀f∈F,f.path.length<=4096):∃G:List A0,G.length=F.length/\AN prog 32 [.slice (F.map A0.C) .no] (.slice (G.map A0.C) .no):=by
 obtain⟨G,h1,h2⟩:=ePS (F.map Rh) WR (λf hf=>by obtain⟨x,Y,rfl⟩:=List.mem_map.1 hf;exact le_trans (hp x Y) Wc)
 have e:(G.map λf=>(⟨f.path,f.e⟩:A0)).map A0.C=G.map A4.C:=by rw[List.map_map];rfl
 exact⟨G.map λf=>⟨f.path,f.e⟩,by rw[length_map,h1,length_map],by rw[e,Mw];exact h2⟩
def yN(c:BS)(o:Aj)(A:List AG):Nd×AT:=bV c.s c.d A 401 (decide (o.kind=1)) (aV c.s o) cG o.O [] false ⟨c.L,[],if o.kind=1 then [] else [[]],0⟩
def aDp(c:BS)(o:Aj)(A:List AG)(k:OpOk c o A):(∀G:List A0,AN prog 32 [.slice ((yN c o A).2.F.map A0.C) .no] (.slice (G.map A0.C) .no)->AN prog 6 [c.s.C,c.d.C,o.C, .slice (A.map AG.C) .no,Tbls.C c.L] (Ez (upM (yN c o A).1).1 G (yN c o A).2.R (yN c o A).2.L))/\
  (yN c o A).2.F.length<=4096/\(∀f∈(yN c o A).2.F,f.path.length<=4096)/\(o.kind≠1->(yN c o A).2.R.length=1/\(yN c o A).2.L=c.L)/\(yN c o A).2.c<=400:=by
 have e:=oK k.served;have a:=k.cnt;have hT:BT c.L:=(Ij k.bg k.cm (u:=c.s.query) (oK k.served _ (yF k.served) · |>.1)).bq 0 c.L (k.ch.mono Wc);unfold yN;by_cases j:o.kind=1
 ·rw[if_pos j,decide_eq_true j];have ht:aV c.s o=c.s.ar:=by unfold aV;rw[if_pos j]
  obtain⟨hf,hno⟩:=Ik k.served;rw[<-ht]at hf hno;have b:=Lz c.s e c.d A 400 (aV c.s o) cG o.O [] false ⟨c.L,[],[],0⟩ ⟨c.L,0⟩ hf rfl (by show 401<=400+1+0;omega) a;have i:=zR c.s c.d A 401 true (aV c.s o) cG o.O [] false ⟨c.L,[],[],0⟩ (le_refl _);have hW:=zM k.bg k.cm k.served o;have O:(bV c.s c.d A (400+1) true (aV c.s o) cG o.O [] false ⟨c.L,[],[],0⟩).2.c<=400:=by have:(oW c.s c.d A (400+1) (aV c.s o) cG o.O ⟨c.L,0⟩).n<=400:=a;dsimp only at b;omega
  have q:=Gj c.s c.d A k.bg 400 (aV c.s o) B8 hW hno 1 _ (λg v=>pV c.s c.d A k.bg (aV c.s o) k.O g v) (AT.ag ⟨c.L,[],[],0⟩) ⟨zero_le _,zero_le _,k.ch.mono Za⟩ O (bG c.s c.d A (aV c.s o) o.O).length (le_refl _);rw[take_length]at q;have l:(bV c.s c.d A (400+1) true (aV c.s o) cG o.O [] false ⟨c.L,[],[],0⟩).2.F.length<=400:=le_trans q.1.F (by have:(bX (fmT c.s c.d A 400 (aV c.s o)) (bG c.s c.d A (aV c.s o) o.O) (AT.ag ⟨c.L,[],[],0⟩)).2.c<=400:=O;exact this);have m:∀f∈(bV c.s c.d A (400+1) true (aV c.s o) cG o.O [] false ⟨c.L,[],[],0⟩).2.F,f.path.length<=400:=λf p=>by
   rcases i.f f p with h1|h1
   ·cases h1
   ·exact le_trans h1 O
  exact⟨λG r=>aC8 c.s c.d A o c.L 400 k.bg j k.loops k.O B8 hW hno (k.ch.mono Wc) O G r,le_trans l Wc,λf hf=>le_trans (m f hf) Wc,λh=>absurd j h,O⟩
 ·rw[if_neg j,decide_eq_false j];have ht:aV c.s o=c.s.query:=by unfold aV;rw[if_neg j]
  have t:DX c.s (aV c.s o):=by rw[ht];exact yF k.served
  have b:=G5 c.s e c.d A 401 (aV c.s o) cG o.O [] false ⟨c.L,[],[[]],0⟩ ⟨c.L,0⟩ t rfl (by show 401<=401+0;omega) a;have i:=zR c.s c.d A 401 false (aV c.s o) cG o.O [] false ⟨c.L,[],[[]],0⟩ (zero_le _);have h0:At ⟨c.L,[],[[]],0⟩:=⟨le_refl _,Wa,zero_le _,(by show 1<=1048576;decide),hT⟩;have hk:=nZ c.s c.d A 401 (aV c.s o) cG o.O [] false _ h0;have O:(bV c.s c.d A (400+1) false (aV c.s o) cG o.O [] false ⟨c.L,[],[[]],0⟩).2.c<=400:=by have:(oW c.s c.d A 401 (aV c.s o) cG o.O ⟨c.L,0⟩).n<=400:=a;dsimp only at b;exact le_trans (le_trans (Nat.le_add_right _ _) b) om
  have l:(bV c.s c.d A (400+1) false (aV c.s o) cG o.O [] false ⟨c.L,[],[[]],0⟩).2.F.length<=400:=le_trans hk.ok.F O;have m:∀f∈(bV c.s c.d A (400+1) false (aV c.s o) cG o.O [] false ⟨c.L,[],[[]],0⟩).2.F,f.path.length<=400:=λf p=>by
   rcases i.f f p with h1|h1
   ·cases h1
   ·exact le_trans h1 O
  exact⟨λG r=>Vo c.s c.d A o c.L 400 k.bg j k.loops k.O hT (le_trans O Wc) G r,le_trans l Wc,λf hf=>le_trans (m f hf) Wc,λ_=>⟨hk.R,hk.L⟩,O⟩
def E0:AF:=[81,117,101,114,121]
def DU:AF:=[85,115,101,114]
def GK:AF:=[97,103,101]
def aCd:AM:=⟨[103,101,116],[.mk [116,97,98,108,101] (jJ [117]), .mk [97,114,103] (jJ [105,100])]⟩
def P2:Ah:=⟨[117,115,101,114],[⟨[105,100],⟨[73,68],0,0⟩,false,bO⟩],⟨DU,0,0⟩,[aCd]⟩
def UD:Ah:=⟨GK,[],⟨[73,110,116],0,0⟩,[]⟩
def jP:AI:=⟨[⟨1,E0,[],[P2],[],[]⟩,⟨1,DU,[],[UD],[],[]⟩],E0,[]⟩
def tH:Row:=⟨[97],DU,[.mk GK (.mk 2 7 [] [] [])],false⟩
def qA:List AY:=[⟨[117],[tH]⟩]
def E1:Sl := .mk 0 [] GK [] [] [] []
def yO:Sl := .mk 0 [] [117,115,101,114] [.mk [105,100] (jJ [97])] [] [] [E1]
def Hx:Aj:=⟨0,[],[],[],[yO]⟩
def lV:AR:=⟨[Hx],[]⟩
def DV{str:AF}{t1 t2:Tk}:AC (.agg [.str name, .int .i64 4, .int .i64 0, .str str, .slice [] t1, .slice [] t2]) (AG.mk name (jJ str)).C:=by unfold AG.C jJ;show AC _ (.agg [.str name, .int .i64 4, .int .i64 0, .str str, .slice (AH.mk 4 0 str [] []).lv .no, .slice (AH.mk 4 0 str [] []).mv .no]);rw[sC,wQ];exact AC.agg (AA.cons (aG _) (AA.cons (aG _) (AA.cons (aG _) (AA.cons (aG _) (AA.cons (AC.no (aD _)) (AA.cons (AC.no (aD _)) (aD _)))))))
def P3{n:Int}{t1 t2:Tk}:AC (.agg [.str name, .int .i64 2, .int .i64 n, .str [], .slice [] t1, .slice [] t2]) (AG.mk name (.mk 2 n [] [] [])).C:=by unfold AG.C;show AC _ (.agg [.str name, .int .i64 2, .int .i64 n, .str [], .slice (AH.mk 2 n [] [] []).lv .no, .slice (AH.mk 2 n [] [] []).mv .no]);rw[sC,wQ];exact AC.agg (AA.cons (aG _) (AA.cons (aG _) (AA.cons (aG _) (AA.cons (aG _) (AA.cons (AC.no (aD _)) (AA.cons (AC.no (aD _)) (aD _)))))))
def aAc:AN prog 17 [] (.tup [jP.C,Tbls.C qA]):=by
 refine pER [.cell 0 24, .tmp 1] func17 (O:=by simp[AV.K,aB,AI.K,Tbls.K]) ?_
 repeat' first|refine .s1 ?_|(refine .q ?_ ?_<;>intro O)|fail
 exact aI rfl (AC.tup (AA.cons (AC.agg (AA.cons (AC.no (AA.cons (AC.agg (AA.cons (aG _) (AA.cons (aG _) (AA.cons (AC.no (aD _)) (AA.cons (AC.no (AA.cons (AC.agg (AA.cons (aG _) (AA.cons (AC.no (AA.cons (AC.agg (AA.cons (aG _) (AA.cons (aG _) (AA.cons (aG _) (AA.cons (aG _) (AA.cons (aG _) (AA.cons (aG _) (AA.cons (aG _) (AA.cons (aG _) (AA.cons (AC.no (AA.eq (sC _ _ _ _).symm)) (AA.cons (AC.no (AA.eq (wQ _ _ _ _).symm)) (aD _)))))))))))) (aD _))) (AA.cons (aG _) (AA.cons (aG _) (AA.cons (aG _) (AA.cons (AC.no (AA.cons (AC.agg (AA.cons (aG _) (AA.cons (AC.no (AA.cons DV (AA.cons DV (aD _)))) (aD _)))) (aD _))) (aD _)))))))) (aD _))) (AA.cons (AC.no (aD _)) (AA.cons (AC.no (aD _)) (aD _)))))))) (AA.cons (AC.agg (AA.cons (aG _) (AA.cons (aG _) (AA.cons (AC.no (aD _)) (AA.cons (AC.no (AA.cons (AC.agg (AA.cons (aG _) (AA.cons (AC.no (aD _)) (AA.cons (aG _) (AA.cons (aG _) (AA.cons (aG _) (AA.cons (AC.no (aD _)) (aD _)))))))) (aD _))) (AA.cons (AC.no (aD _)) (AA.cons (AC.no (aD _)) (aD _)))))))) (aD _)))) (aD _))) (AA.cons (AC.no (AA.cons (AC.agg (AA.cons (aG _) (AA.cons (AC.no (AA.cons (AC.agg (AA.cons (aG _) (AA.cons (aG _) (AA.cons (AC.no (AA.cons P3 (aD _))) (aD _))))) (aD _))) (aD _)))) (aD _))) (aD _))))
def UE:AN prog 18 [] lV.C:=by
 refine pER [.cell 0 28] func18 (O:=AR.K _) ?_
 repeat' first|refine .s1 ?_|(refine .q ?_ ?_<;>intro O)|fail
 exact aI rfl (AC.agg (AA.cons (AC.no (AA.cons (AC.agg (AA.cons (aG _) (AA.cons (aG _) (AA.cons (AC.no (aD _)) (AA.cons (AC.no (aD _)) (AA.cons (AC.no (AA.cons (AC.agg (AA.cons (aG _) (AA.cons (aG _) (AA.cons (aG _) (AA.cons (AC.no (AA.cons DV (aD _))) (AA.cons (AC.no (aD _)) (AA.cons (aG _) (AA.cons (AC.no (AA.cons (AC.agg (AA.cons (aG _) (AA.cons (aG _) (AA.cons (aG _) (AA.cons (AC.no (aD _)) (AA.cons (AC.no (aD _)) (AA.cons (aG _) (AA.cons (AC.no (aD _)) (aD _))))))))) (aD _))) (aD _))))))))) (aD _))) (aD _))))))) (aD _))) (AA.cons (AC.no (aD _)) (aD _))))
def Ss:AF:=[117,115,101,114]
def sG:AF:=[117]
def sH:AF:=[97]
def UF:AH := .mk 7 0 [] [] [.mk Ss (.mk 7 0 [] [] [.mk GK (.mk 2 7 [] [] [])])]
def ndA:Nd := .mk 2 false bO [GK] [mS false (.mk 2 7 [] [] [])]
def ndW:Nd := .mk 2 false bO [Ss] [ndA]
theorem aCe(s:AI)(x:Sl)(h1:iV [] x.ao=true)(h2:x.kind=0)(u:AF):bG s lV [] u [x]=[⟨jL x,[x]⟩]:=by unfold bG;rw[gG,fP];unfold jS;rw[if_neg (by rw[h1];decide),if_pos h2];rfl
theorem aDq:ofB jP E0 P2=(⟨2,sG,[],[105,100],[]⟩,true):=WQ
theorem aDr:ofB jP DU UD=(⟨0,[],GK,[],[]⟩,true):=WQ
theorem aCf:aK jP E0 yO.name=(P2,true):=rfl
theorem aCg:aK jP DU E1.name=(UD,true):=rfl
theorem aAd:dV jP P2.params yO.args []=(yO.args,0):=by rfl
theorem aAe:dV jP UD.params E1.args []=([],0):=by rfl
def aAf(n:Nat)(p:Ac)(R:List (List Aa))(c:Nat):bV jP lV [] (n+1) false DU tH [E1] p false ⟨qA,[],R,c⟩=(ndA,⟨qA,[],R,c+3⟩):=by
 have e:bV jP lV [] (n+1) false DU tH [E1] p false ⟨qA,[],R,c⟩=(.mk 2 false bO ((bG jP lV [] DU [E1]).map AW.key) (bX (λg st=>cA jP lV [] (bV jP lV [] n false) false DU tH g (p++[⟨g.key,0⟩]) st) (bG jP lV [] DU [E1]) (AT.ag ⟨qA,[],R,c⟩)).1,
  (bX (λg st=>cA jP lV [] (bV jP lV [] n false) false DU tH g (p++[⟨g.key,0⟩]) st) (bG jP lV [] DU [E1]) (AT.ag ⟨qA,[],R,c⟩)).2):=rfl
 rw[e,aCe jP E1 rfl rfl];have hf:∀p st,cA jP lV [] (bV jP lV [] n false) false DU tH ⟨jL E1,[E1]⟩ p st=(mS false (.mk 2 7 [] [] []),st.ag.ag):=λp st=>by unfold cA;dsimp only[List.headD];rw[if_neg Wc,aCg];dsimp only;rw[aAe];dsimp only;rw[if_neg Wc,aDr];rfl
 rw[bX,bX];dsimp only;rw[hf];rfl
def aDs(n:Nat):bV jP lV [] (n+2) false E0 cG [yO] [] false ⟨qA,[],[[]],0⟩=(ndW,⟨qA,[],[[⟨sG,sH⟩]],6⟩):=by
 have e:bV jP lV [] (n+2) false E0 cG [yO] [] false ⟨qA,[],[[]],0⟩=(.mk 2 false bO ((bG jP lV [] E0 [yO]).map AW.key) (bX (λg st=>cA jP lV [] (bV jP lV [] (n+1) false) false E0 cG g ([]++[⟨g.key,0⟩]) st) (bG jP lV [] E0 [yO]) (AT.ag ⟨qA,[],[[]],0⟩)).1,
  (bX (λg st=>cA jP lV [] (bV jP lV [] (n+1) false) false E0 cG g ([]++[⟨g.key,0⟩]) st) (bG jP lV [] E0 [yO]) (AT.ag ⟨qA,[],[[]],0⟩)).2):=rfl
 rw[e,aCe jP yO rfl rfl];have hf:∀p,cA jP lV [] (bV jP lV [] (n+1) false) false E0 cG ⟨jL yO,[yO]⟩ p (AT.ag ⟨qA,[],[[]],0⟩)=(ndA,⟨qA,[],[[⟨sG,sH⟩]],6⟩):=λp=>by unfold cA;dsimp only[List.headD];rw[if_neg Wc,aCf];dsimp only;rw[aAd];dsimp only;rw[if_neg Wc,aDq];dsimp only;rw[if_neg Wc,if_pos rfl];have b:(bR [105,100] yO.args).1=jJ sH:=rfl;have hb:bM [yO]=[E1]:=rfl;rw[b,hb];unfold jJ;rw[dL];dsimp only;rw[if_neg Wc,if_neg Wc,if_neg Wc,if_neg Wc];have a:cN (AT.ag (AT.ag (AT.ag ⟨qA,[],[[]],0⟩))).L ⟨sG,sH⟩=⟨tH,true,0⟩:=rfl;rw[a];unfold w9;dsimp only;rw[if_neg Wc,if_neg Wc,if_neg Wc];exact aAf n p _ 3
 rw[bX,bX];dsimp only;rw[hf];rfl
theorem upW:(upM ndW).1=UF:=by unfold ndW ndA mS;simp[upM,upP,UF]
def aAg:oR lV=false:=rfl
def GL(x:AF):(jJ x).ok:=by unfold jJ;rw[AH.ok];exact⟨Wc,Wc,by rw[l6];trivial,by rw[l9];trivial⟩
def UG(n:Int)(h:(Lit.int .i64 n).wf=true):(AH.mk 2 n [] [] []).ok:=by rw[AH.ok];exact⟨Wc,h,by rw[l6];trivial,by rw[l9];trivial⟩
def UH:jP.ok:=λd a=>by
 simp only[jP,mem_cons,not_mem_nil,or_false]at a
 rcases a with rfl|rfl
 ·refine⟨λf hf=> ?_,λp hp=>Xm⟩
  simp only[mem_cons,not_mem_nil,or_false]at hf
  subst hf
  refine⟨λp hp=> ?_,λd a=> ?_⟩
  ·simp only[P2,mem_cons,not_mem_nil,or_false]at hp
   subst hp
   exact Ky
  ·simp only[P2,mem_cons,not_mem_nil,or_false]at a
   subst a
   intro m b
   simp only[aCd,mem_cons,not_mem_nil,or_false]at b
   rcases b with rfl|rfl
   ·exact GL _
   ·exact GL _
 ·refine⟨λf hf=> ?_,λp hp=>Xm⟩
  simp only[mem_cons,not_mem_nil,or_false]at hf
  subst hf
  exact⟨(λp hp=>Xm),(λd a=>by cases a)⟩
def aDt:Am jP lV []:=⟨WQ,UH,WQ,(λf hf=>by cases hf),Wc,λx Y=>Y8⟩
def aCh:Ai Hx.O 0:=by
 refine⟨WQ,λx Y=> ?_⟩;simp only[Hx,mem_cons,not_mem_nil,or_false]at Y;subst Y;refine⟨?_,WQ⟩;rw[Sl.ok_eq];refine⟨Wc,λm a=> ?_,(λd b=>by cases b),λy hy=> ?_⟩
 ·simp only[yO,Sl.args,mem_cons,not_mem_nil,or_false]at a;subst a;exact GL _
 ·simp only[yO,Sl.O,mem_cons,not_mem_nil,or_false]at hy;subst hy;rw[Sl.ok_eq];exact⟨Wc,(λm a=>by cases a),(λd b=>by cases b),(λy hy=>by cases hy)⟩
def aCi:BT qA:=by
 refine⟨⟨Wc,λt ht=> ?_,λt ht r hr=> ?_⟩,λt ht r hr m a=> ?_⟩
 ·obtain rfl:=mem_singleton.1 ht;exact by decide
 ·obtain rfl:=mem_singleton.1 ht;obtain rfl:=mem_singleton.1 hr;exact by decide
 ·obtain rfl:=mem_singleton.1 ht;obtain rfl:=mem_singleton.1 hr;obtain rfl:=mem_singleton.1 a;exact⟨DR WQ,UG 7 Wc⟩
def xW:AV := .agg [.int .i64 7, .int .i64 0, .str [], .slice [] .no, .slice [.agg [.str Ss, .int .i64 7, .int .i64 0, .str [], .slice [] .no, .slice [.agg [.str GK, .int .i64 2, .int .i64 7, .str [], .slice [] .no, .slice [] .no]] .no]] .no,
 .slice [] .no, .slice [.slice [.agg [.str sG, .str sH]] .no] .no,Tbls.C qA]
theorem aCj:Ez UF [] [[⟨sG,sH⟩]] qA=xW:=by unfold Ez xW UF;simp[AH.b0,AH.bf,AH.kind,AH.n,AH.s,AH.l,AH.m,AG.C,AG.name,AG.v,kI,Aa.C]
def aCk:AN prog 32 [.slice [] .no] (.slice [] .no):=by obtain⟨G,h1,h2⟩:=ePS [] Wc (λf h=>Wu);obtain rfl:=List.length_eq_zero_iff.1 h1;exact h2
def aCl:AN prog 6 [jP.C,lV.C,Hx.C, .slice (([]:List AG).map AG.C) .no,Tbls.C qA] xW:=by have e:bV jP lV [] (1+1) false (aV jP Hx) cG Hx.O [] false ⟨qA,[],[[]],0⟩=(ndW,⟨qA,[],[[⟨sG,sH⟩]],6⟩):=aDs 0;have hr:=Vo jP lV [] Hx qA 1 aDt Wc aAg aCh aCi (by rw[e];decide) [] (by rw[e];exact aCk);rw[e,upW]at hr;rw[<-aCj];exact hr
def Lj:CS prog 65 uQ:=⟨underlying65,Wb,Wb,Wc⟩
def Su:Ft prog uQ 0 [.str sG, .str sH] [.str sG, .str sH]=some true:=rfl
def UI:AN prog 5 [] (.bool true):=by
 have h1:=aAc;have h2:=UE;have h3:=aCl;have a:AA [jP.C,lV.C,Hx.C, .slice [] .nil,Tbls.C qA] [jP.C,lV.C,Hx.C, .slice (([]:List AG).map AG.C) .no,Tbls.C qA]:=
  AA.cons (aG _) (AA.cons (aG _) (AA.cons (aG _) (AA.cons (AC.no (aD _)) (aD _))))
 have x0:(lV.ops.map Aj.C)[0]? =some Hx.C:=rfl;have c:[AV.agg [.str sG, .str sH]][0]? =some (AV.agg [.str sG, .str sH]):=rfl;have e:[AV.slice [AV.agg [.str sG, .str sH]] .no][0]? =some (AV.slice [AV.agg [.str sG, .str sH]] .no):=rfl;have f:[AV.agg [.str Ss, .int .i64 7, .int .i64 0, .str [], .slice [] .no, .slice [AV.agg [.str GK, .int .i64 2, .int .i64 7, .str [], .slice [] .no, .slice [] .no]] .no]][0]? =some (AV.agg [.str Ss, .int .i64 7, .int .i64 0, .str [], .slice [] .no, .slice [AV.agg [.str GK, .int .i64 2, .int .i64 7, .str [], .slice [] .no, .slice [] .no]] .no]):=rfl;have g:[AV.agg [.str GK, .int .i64 2, .int .i64 7, .str [], .slice [] .no, .slice [] .no]][0]? =some (AV.agg [.str GK, .int .i64 2, .int .i64 7, .str [], .slice [] .no, .slice [] .no]):=rfl;have b:=Su;refine pEn 0 func5 ?_
 repeat' first|refine bH (d:=1) ?_|refine bY 1 rfl (aY) ?_|refine bH (d:=3) ?_|refine bY 3 rfl (aY) ?_|refine aH (hw:=a) h3 ?_|refine Qx Lj rfl rfl b ?_|refine .s1 ?_|(refine .q ?_ ?_<;>intro O)|refine aX (agg:=true) ?_|fail
 exact bW
def Hy(s:AI)(d:Ag):List AF:=if d.kind=1 then d.fields.map λf=>(ofB s d.name f).1.table else []
def kZ(s:AI):List AF:=s.ah.flatMap (Hy s)
def Dg(s:AI)(k:Nat):List AF:=(s.ah.take k).flatMap (Hy s)
def E2(s:AI)(d:Ag)(k j:Nat):List AF:=Dg s k++(d.fields.take j).map λf=>(ofB s d.name f).1.table
def P4{s:AI}{k:Nat}(h:k<s.ah.length):Dg s (k+1)=Dg s k++Hy s s.ah[k]:=by unfold Dg;rw[List.take_succ_eq_append_getElem h,List.flatMap_append];simp
def P5{s:AI}{d:Ag}{k j:Nat}(h:j<d.fields.length):E2 s d k (j+1)=E2 s d k j++[(ofB s d.name d.fields[j]).1.table]:=by unfold E2;rw[List.take_succ_eq_append_getElem h,List.map_append,List.append_assoc];simp
def OB(s:AI):∀(l:List Ag) (k:Nat),((l.take k).flatMap (Hy s)).length<=aA Ag.size l
 |[],k=>by simp
 |d::l,0=>zero_le _
 |d::l,k+1=>by
  have h1:=OB s l k
  have h2:=d.lens
  have h3:(Hy s d).length<=d.fields.length:=by unfold Hy;split<;>simp
  rw[List.take_succ_cons,List.flatMap_cons,length_append,aA]
  omega
def Lk(s:AI)(k:Nat):(Dg s k).length<=s.size:=by have:=OB s s.ah k;unfold Dg;unfold AI.size;omega
def Bd(s:AI)(k:Nat)(st:AT):Prop:=st.R.length<=k/\∀r∈st.R,r.Nodup/\r.length<=st.c/\∀n∈r,n.table∈kZ s
def Ix{P Q:List Aa->Prop}{n:Aa}(h0:∀r,P r->Q r)(h1:∀r,P r->n∉r->Q (r++[n])):∀R:List (List Aa),(∀r∈R,P r)->∀r∈jM n R,Q r
 |[],_,r,hr=>by rw[jM]at hr;cases hr
 |[q],h,r,hr=>by
  rw[jM]at hr
  split at hr
  ·exact h0 r (h r hr)
  ·rename_i c
   obtain rfl:=mem_singleton.1 hr
   exact h1 q (h q Wa) c
 |q::a::R,h,r,hr=>by
  rw[jM]at hr
  rcases mem_cons.1 hr with rfl|hr
  ·exact h0 r (h r Wa)
  ·exact Ix h0 h1 (a::R) (λr hr=>h r Xw) r hr
theorem Bd.ag{s:AI}{k:Nat}(n:Nat)(h:Bd s k st):Bd s k ⟨st.L,st.F,st.R,st.c+n⟩:=⟨h.1,λr hr=>by have:=h.2 r hr;exact⟨this.1,Wl,this.2.2⟩⟩
theorem Bd.read{s:AI}{tb k:AF}(h:Bd s j st)(O:tb∈kZ s):Bd s j (st.ag.read ⟨tb,k⟩):=by
 refine⟨?_,Ix (P:=λr=>r.Nodup/\r.length<=st.c/\∀n∈r,n.table∈kZ s) (λr hr=>⟨hr.1,le_succ_of_le hr.2.1,hr.2.2⟩) (λr hr hn=>⟨?_, ?_,λn d=> ?_⟩) st.R h.2⟩
 ·show (jM _ st.R).length<=j;rw[kG];exact h.1
 ·rw[List.nodup_append];exact⟨hr.1,Wa,λa ha b hb e=>by obtain rfl:=mem_singleton.1 hb;exact hn (e▸ha)⟩
 ·rw[length_append];exact Nat.succ_le_succ hr.2.1
 ·rcases List.mem_append.1 d with d|d
  ·exact hr.2.2 n d
  ·obtain rfl:=mem_singleton.1 d;exact O
theorem Bd.bw{s:AI}{k:Nat}(L:List AY)(h:Bd s k st):Bd s (k+1) ⟨L,st.F,st.R++[[]],st.c+1⟩:=by
 refine⟨by have:=h.1;simp;omega,λr hr=> ?_⟩;rcases List.mem_append.1 hr with hr|hr
 ·exact(h.ag 1).2 r hr
 ·obtain rfl:=mem_singleton.1 hr;exact⟨List.nodup_nil,zero_le _,λn hn=>by cases hn⟩
def CD(s:AI)(t:AF):Prop:=fJ s t [1]=true\/dQ s t=none
def CW(s:AI)(pl:Pl):Prop:=∀u row w p m st k,CD s u->Bd s k st->Bd s k (pl u row w p m st).2
mutual
theorem GM{s:AI}(hs:A5 s){pl:Pl}(hpl:CW s pl)(tb:AF)(w:List Sl):∀(v:AH) (t:Ae) (p:Ac) (st:AT) (j:Nat),(fQ s t.name=true->tb∈kZ s)->Bd s j st->Bd s j (dL s pl tb w v t p st).2
 | .mk k n str l m,t,p,st,j,ht,h=>by
  have h0:=h.ag 1
  rw[dL]
  dsimp only
  split
  ·split<;>exact h0
  split
  ·split
   ·exact h0
   ·exact Ll hs hpl tb w l (b7 t) p 0 st.ag j ht h0
  split
  ·split<;>exact h0
  rename_i c
  split
  ·exact h0
  have h1:=h.read (k:=str) (ht WY)
  unfold w9
  split
  ·exact h1
  split
  ·split<;>exact h1
  split
  ·exact h1
  ·rename_i a
   exact hpl _ _ _ _ _ _ _ (.inl (G7 hs (Decidable.not_not.1 a))) h1
theorem Ll{s:AI}(hs:A5 s){pl:Pl}(hpl:CW s pl)(tb:AF)(w:List Sl):∀(l:List AH) (t:Ae) (p:Ac) (i:Nat) (st:AT) (j:Nat),(fQ s t.name=true->tb∈kZ s)->Bd s j st->Bd s j (cD s pl tb w l t p i st).2
 |[],_,_,_,st,_,_,h=>by rw[cD];exact h
 |v::l,t,p,i,st,j,ht,h=>by
  rw[cD]
  exact Ll hs hpl tb w l t p (i+1) _ j ht (GM hs hpl tb w v t _ st j ht h)
end
def OC{s:AI}(h:A5 s){u:AF}(ht:CD s u)(name:AF)(O:fQ s (aK s u name).1.t.name=true):(ofB s u (aK s u name).1).1.table∈kZ s:=by
 have hz:fQ s qB.t.name=false:=by unfold fQ fJ bN;rw[show qB.t.name=[] from rfl,h.nil];simp
 unfold aK at O ⊢;cases e:iW s u name with
 |none=>rw[e]at O;rw[show fQ s qB.t.name=true from O]at hz;cases hz
 |some f=>
  rw[e]at O;dsimp only at O ⊢;unfold iW at e;split at e
  ·cases e;unfold fQ fJ bN dQ at O;rw[if_pos (show kN cW=true by decide)]at O;exact absurd (show decide ((0:Int)∈[1,2,3])=true from O) Wc
  ·split at e
   case isFalse=>cases e
   rcases ht with ht|ht
   ·obtain⟨d,hf,hk⟩:=zZ ht;obtain⟨b,a⟩:=zU hf om;rw[show (bN s u).1=d by unfold bN;rw[hf]]at e;unfold kZ;rw[List.mem_flatMap];refine⟨d,b, ?_⟩;unfold Hy;rw[if_pos hk, <-a,List.mem_map];exact⟨f,List.mem_of_find?_eq_some e,rfl⟩
   ·rw[show (bN s u).1=uY by unfold bN;rw[ht]]at e;simp[uY,M0]at e
def Lm{s:AI}(hs:A5 s)(d:AR)(A:List AG){pl:Pl}(hpl:CW s pl)(a:Bool)(u:AF)(ht:CD s u)(row:Row)(g:AW)(p:Ac)(st:AT)(k:Nat)(h:Bd s k st):Bd s (k+a.toNat) (cA s d A pl a u row g p st).2:=by
 have h0:Bd s (k+a.toNat) st.ag:=⟨Nat.le_add_right_of_le h.1,(h.ag 1).2⟩;unfold cA;dsimp only;split
 ·exact h0
 split
 ·exact h0
 split
 ·cases a with
  |false=>exact h0
  |true=>
   rw[if_pos rfl];split
   ·exact h.bw []
   ·exact GM hs hpl _ _ _ _ _ _ _ (OC hs ht _) (h.bw _)
 ·exact GM hs hpl _ _ _ _ _ st.ag _ (OC hs ht _) h0
def JK{α:Type}{s:AI}(a:α->AT->Nd×AT)(b:Nat)(hf:∀g st k,Bd s k st->Bd s (k+b) (a g st).2):∀(l:List α) (st:AT) (k:Nat),Bd s k st->Bd s (k+l.length * b) (bX a l st).2
 |[],st,k,h=>by rw[List.length_nil,Nat.zero_mul];exact h
 |g::l,st,k,h=>by
  have:=JK a b hf l _ _ (hf g st k h)
  rwa [Nat.add_assoc,show b+l.length * b=(g::l).length * b by rw[List.length_cons,Nat.succ_mul];omega]at this
def Ln{s:AI}(hs:A5 s)(d:AR)(A:List AG):∀n:Nat,CW s (bV s d A n false)
 |0=>λu row w p m st _ _ h=>h.ag _
 |n+1=>λu row w p m st k ht h=>JK _ 0 (λg st k h=>Lm hs d A (Ln hs d A n) false u ht row g _ st k h) (bG s d A u w) st.ag k (h.ag 1)
def Lo{s:AI}(hs:A5 s)(d:AR)(A:List AG)(n:Nat)(a:Bool)(u:AF)(ht:CD s u)(row:Row)(w:List Sl)(p:Ac)(m:Bool)(st:AT)(k:Nat)(h:Bd s k st):Bd s (k+(bG s d A u w).length * a.toNat) (bV s d A (n+1) a u row w p m st).2:=
 JK _ _ (λg st k h=>Lm hs d A (Ln hs d A n) a u ht row g _ st k h) _ _ _ (h.ag 1)
def aAh{s:AI}(h:A5 s)(o:Aj):CD s (aV s o):=by
 unfold aV;split
 ·by_cases a:s.ar=[]
  ·exact .inr (by rw[a];exact h.nil)
  ·exact .inl (OO h a)
 ·exact .inl (yF h).1
def BS.size(c:BS):Nat:=c.s.size+c.d.size+aA AG.size c.vars+aA AY.size c.L+4
def BS.okR(c:BS):Prop:=c.s.ok/\c.d.ok/\(∀m∈c.vars,m.ok)/\∀t∈c.L,t.ok
def MY:∀n:Nat,AP prog n 32 true BS.C BS.size BS.okR
 |0=>AP.zero
 |n+1=>(AP.struct underlying32 Wb
   (AU.cons (c:=3) rfl Wb (kS λ_=>⟨_,rfl⟩) (Pk n)
    (AU.cons (c:=2) rfl Wb (kS λ_=>⟨_,rfl⟩) (Pn n)
     (AU.cons (c:=1) rfl Wb (bL λ_=>rfl) (nR n)
      (AU.cons (c:=1) rfl Wb (bL λ_=>rfl) (tL n)
       (AU.cons (c:=1) rfl Wb (bL λ_=>rfl) (Nb n) AU.nil)))))).map
   (λx=>(⟨x.1,x.2.1,x.2.2.1,x.2.2.2.1,x.2.2.2.2.1⟩:BS)) (λ_=>rfl) (λx=>by simp only[BS.size];omega) (λx h=>⟨h.1,h.2.1,h.2.2.2.1,h.2.2.2.2.1⟩)
def BS.of{c:BS}(h:c.okR)(hz:c.size<=1048576+4):Ba c:=by unfold BS.size at hz;exact⟨om,h.1,om,h.2.1,om,h.2.2.1,om,h.2.2.2⟩
def UM{x y:Aa}(h:¬x=y):Ft prog uQ 0 [.str x.table, .str x.key] [.str y.table, .str y.key]=some false:=by have:Ft prog uQ 0 [.str x.table, .str x.key] [.str y.table, .str y.key]=some (x.table==y.table&&(x.key==y.key&&true)):=rfl;rw[this];obtain⟨a,b⟩:=x;obtain⟨c,e⟩:=y;simp_all
def aAl(l:List Aa)(x:Aa)(hl:l.length<=9223372036854775807)(Y:x∉l):AN prog 8 [.slice (l.map Aa.C) .no,x.C] (.bool false):=by
 refine pEn 4 func8 (ha:=by simp[AV.K,aB,qF,Aa.K]) ?_
 repeat' first|refine .br ?_|refine .s1 ?_|(refine .q ?_ ?_<;>intro O)|fail
 refine fB l Aa.C (λk=>[(5, .int .i64 k),(0, .slice (l.map Aa.C) .no),(3, .ab x.C)]) (λ_=>_) (λ_=>True) trivial (λk h1 c x1 _=> ?_) (λb _=> ?_)
 ·have a:=UM (x:=l[k]) (y:=x) λe=>Y (e▸getElem_mem h1)
  repeat' first|refine .s1 ?_|(refine .q ?_ ?_<;>intro O)|refine Qx Lj rfl rfl a ?_|fail
  exact nz trivial (hb:=by simp[aM,AV.aa,Aa.C,aE])
 ·refine .go ?_;exact bW
theorem evalReads(c:BS)(h:Ba c):AN prog 3 [c.C] (.bool true):=by
 obtain⟨⟨o,A,b⟩,hq,hp⟩:=kOp c h;dsimp only at hq hp;have hw:=UI;have a1:=BS.K c;refine pEn 2 func3 (ha:=by rw[aB,a1];rfl) ?_;cases b with
 |false=>
  repeat' first|refine .br ?_|refine .s1 ?_|(refine .q ?_ ?_<;>intro O)|fail
  exact bW
 |true=>
 have k:=hq rfl;obtain⟨hr,r1,r2,_,O⟩:=aDp c o A k;have a2:=Lo k.served c.d A 400 (decide (o.kind=1)) (aV c.s o) (aAh k.served o) cG o.O [] false ⟨c.L,[],if o.kind=1 then [] else [[]],0⟩ (if o.kind=1 then 0 else 1)
  ⟨by dsimp only;split<;>simp,λr e=>by
   dsimp only at e;split at e
   ·cases e
   ·obtain rfl:=mem_singleton.1 e;exact⟨List.nodup_nil,zero_le _,λn hn=>by cases hn⟩⟩
 change Bd c.s _ (yN c o A).2 at a2;obtain⟨F,_,a5⟩:=aAb (yN c o A).2.F r1 r2;replace hr:=hr F a5;obtain⟨z,g⟩:=a2;replace g:∀r∈(yN c o A).2.R,r.Nodup/\r.length<=400/\∀n∈r,n.table∈kZ c.s:=λr e=>⟨(g r e).1,le_trans (g r e).2.1 O,(g r e).2.2⟩
 have a6:AN prog 10 [c.s.C,c.d.C, .slice (A.map AG.C) .no, .str (aV c.s o), .slice (o.O.map Sl.C) .no] (.slice ((bG c.s c.d A (aV c.s o) o.O).map AW.C) .no):=by obtain⟨q1,q2⟩:=k.bg.ai;have q3:=k.O.sz;have q4:=k.bg.hd;exact OW c.s c.d A (aV c.s o) o.O k.bg.hs om q1 k.bg.he
 have b2:=Jl c.s c.d A k.bg _ (rA c.s c.d A 0) _ (Jm c.s (oK k.served) c.d A k.bg 0) (aV c.s o) cG ⟨Wc,λm e=>by cases e⟩ B8 (zM k.bg k.cm k.served o) o.O ⟨c.L,0⟩ k.O (k.ch.mono Za) (zero_le _);generalize bG c.s c.d A (aV c.s o) o.O=gs at *
 generalize (upM (yN c o A).1).1=v at *
 generalize (yN c o A).2.R=R at *
 generalize (yN c o A).2.L=L2 at *
 have aw:R.length<=1073741825:=by split at z<;>cases hd:decide (o.kind=1)<;>rw[hd]at z<;>simp only[Bool.toNat_false,Bool.toNat_true]at z<;>omega
 have ab:(o.kind != 1)=true\/((o.kind != 1)=false/\decide ((R.length:Int)<=(gs.length:Int))=true/\aV c.s o=c.s.ar):=by
  by_cases o1:o.kind=1
  ·right;rw[if_pos o1,decide_eq_true o1]at z;simp only[Bool.toNat_true]at z;exact⟨bnF o1,decide_eq_true om,by unfold aV;rw[if_pos o1]⟩
  ·exact .inl (bnT o1)
 unfold Ez kI at hr;have hs:=k.bg.hs;clear r1 r2 z hq k O;have a:aQ 2 1 [Ob.cells [.int .i64 o.kind, .str o.name, .slice (o.vars.map AO.C) .no, .slice (o.ao.map AM.C) .no, .slice (o.O.map Sl.C) .no],Ob.cells [.int .i64 v.kind, .int .i64 v.n, .str v.s, .slice v.lv .no, .slice v.mv .no, .slice (F.map A0.C) .no, .slice (R.map λr => .slice (r.map Aa.C) .no) .no,Tbls.C L2]]=true:=by have:=gZ R;unfold kI at this;simp[aQ,Ob.aa,aE,AV.aa,aC,b9,b8,aZ,AH.bo,AH.bt,Tbls.C,fG,this,bF A0.K]
 have l:c.C.aa 2 1=true:=aF _ _ _ a1;have p:aE 2 1 (A.map AG.C)=true:=aC _ _ _ (aT _);generalize u:Ob.cells [.int .i64 o.kind, .str o.name, .slice (o.vars.map AO.C) .no, .slice (o.ao.map AM.C) .no, .slice (o.O.map Sl.C) .no]=b0 at a;generalize w:Ob.cells [.int .i64 v.kind, .int .i64 v.n, .str v.s, .slice v.lv .no, .slice v.mv .no, .slice (F.map A0.C) .no, .slice (R.map λr => .slice (r.map Aa.C) .no) .no,Tbls.C L2]=b1 at a
 repeat' first|refine .br ?_|refine .s1 ?_|(refine .q ?_ ?_<;>intro O)|refine aH hr ?_|fail
 refine eJ 7 false 1 rfl ?_;refine fB c.s.ah Ag.C (λk=>[(8, .int .i64 k),(7, .slice ((Dg c.s k).map AV.str) (.own 0 1)),(1, .ab c.C),(3, .ptr 0 0),(4, .slice (A.map AG.C) .no),(6, .ptr 1 0)]) (λk=>⟨[b0,b1],[.len (Dg c.s k).length]⟩) (λ_=>True) trivial (λk h1 d1 x1 _=> ?_) (λd0 _=> ?_) (hz:=by subst u w;rfl)
 ·have eM:=P4 h1;have a7:=Lk c.s (k+1);have az:=lP (getElem_mem h1);have b4:=c.s.len;generalize c.s.ah[k]=d at *
  have ay:=d.lens;by_cases t:d.kind=1
  ·have e1:=beT t;have eD:Hy c.s d=d.fields.map λf=>(ofB c.s d.name f).1.table:=by unfold Hy;rw[if_pos t]
   repeat' first|refine .br ?_|refine .s1 ?_|(refine .q ?_ ?_<;>intro O)|fail
   refine fB d.fields Ah.C (λj=>[(9, .int .i64 j),(7, .slice ((E2 c.s d k j).map AV.str) (.own 0 1)),(8, .int .i64 k),(1, .ab c.C),(3, .ptr 0 0),(4, .slice (A.map AG.C) .no),(6, .ptr 1 0)]) (λj=>⟨[b0,b1],[.len (E2 c.s d k j).length]⟩) (λ_=>True) trivial (λj y f1 y1 _=> ?_) (λf0 _=> ?_) (hs:=by simp only[E2,List.take_zero,map_nil,append_nil];exact Z0) (hz:=by simp only[E2,List.take_zero,map_nil,append_nil])
   ·have eN:=P5 (s:=c.s) (k:=k) y;have hf:d.fields[j].size<=d.size:=by have:=aN (size:=Ah.size) (getElem_mem y);unfold Ag.size;omega
    have b3:=bOf c.s d.name d.fields[j] om om;have av:(E2 c.s d k j).length<=1048576:=by rw[eM,eD,length_append,length_map]at a7;unfold E2;rw[length_append,length_map,List.length_take];omega
    generalize E2 c.s d k j=xs at *
    have ac:(xs.map AV.str).length=xs.length:=length_map _
    repeat' first|refine bH (d:=10) ?_|refine bY 10 rfl (aY) ?_|refine .s1 ?_|(refine .q ?_ ?_<;>intro O)|refine aX (agg:=true) ?_|refine bU (n:=xs.length) ac ?_|fail
    exact nz trivial (hs:=by simp only[eN,List.map_append];exact Z0) (hb:=by simp[aM,AV.aa,aC,aR,l,p]) (h3:=by rw[and_eq_true];exact⟨a,rfl⟩) (h4:=by simp only[eN,length_append];rfl)
   ·repeat' first|refine .s1 ?_|(refine .q ?_ ?_<;>intro O)|fail
    have eE:E2 c.s d k d.fields.length=Dg c.s (k+1):=by unfold E2;rw[take_length,eM,eD]
    exact nz trivial (hs:=by rw[<-eE];exact Z0) (hb:=by simp[aM,AV.aa,aC,aR,l,p]) (h3:=by rw[and_eq_true];exact⟨a,rfl⟩) (h4:=by simp only[<-eE];rfl)
  ·have e1:=beF t;have eD:Dg c.s (k+1)=Dg c.s k:=by rw[eM];unfold Hy;rw[if_neg t,append_nil]
   repeat' first|refine .br ?_|refine .s1 ?_|(refine .q ?_ ?_<;>intro O)|fail
   refine lZ ([]:List Nat) (λ_ => .undef) (λ_=>true) (λj=>[(9, .int .i64 j),(7, .slice ((Dg c.s k).map AV.str) (.own 0 1)),(8, .int .i64 k),(1, .ab c.C),(3, .ptr 0 0),(4, .slice (A.map AG.C) .no),(6, .ptr 1 0)]) (λj y=>by cases y) (λ_ _=> ?_)
   repeat' first|refine .s1 ?_|(refine .q ?_ ?_<;>intro O)|fail
   all_goals exact nz trivial (hs:=by rw[eD];exact Z0) (hb:=by simp[aM,AV.aa,aC,aR,l,p]) (h3:=by rw[and_eq_true];exact⟨a,rfl⟩) (h4:=by simp only[eD];rfl)
 have eT:Dg c.s c.s.ah.length=kZ c.s:=by unfold Dg kZ;rw[take_length]
 have a8:=Lk c.s c.s.ah.length;rw[eT]at a8 ⊢;generalize kZ c.s=ns at *
 repeat' first|refine .br ?_|refine .s1 ?_|(refine .q ?_ ?_<;>intro O)|fail
 refine fB R (λr => .slice (r.map Aa.C) .no) (λi=>[(12, .int .i64 i),(7, .slice (ns.map AV.str) (.own 0 1)),(1, .ab c.C),(3, .ptr 0 0),(4, .slice (A.map AG.C) .no),(6, .ptr 1 0)]) (λ_=>_) (λ_=>True) trivial (λi i1 f1 z1 _=> ?_) (λf0 _=> ?_)
 ·obtain⟨n1,n2,n3⟩:=g R[i] (getElem_mem i1);subst u w
  repeat' first|refine .br ?_|refine .s1 ?_|(refine .q ?_ ?_<;>intro O)|fail
  refine fB R[i] Aa.C (λj=>[(13, .int .i64 j),(12, .int .i64 i),(7, .slice (ns.map AV.str) (.own 0 1)),(1, .ab c.C),(3, .ptr 0 0),(4, .slice (A.map AG.C) .no),(6, .ptr 1 0)]) (λ_=>_) (λ_=>True) trivial (λj y g1 w1 _=> ?_) (λg0 _=> ?_)
  ·have hN:=aAl (R[i].take j) R[i][j] (by rw[List.length_take];omega) (λe=>by obtain⟨q,q1,q2⟩:=List.mem_take_iff_getElem.1 e;exact List.pairwise_iff_getElem.1 n1 q j om y om q2)
   rw[List.map_take]at hN;have hH:=zI ns R[i][j].table om;rw[decide_eq_true (n3 _ (getElem_mem y))]at hH;have a9:j<=(R[i].map Aa.C).length:=WR
   generalize R[i]=r at *
   generalize r[j]=x at *
   repeat' first|refine .s1 ?_|(refine .q ?_ ?_<;>intro O)|refine aH hN ?_|refine aH (hw:=AA.cons (AC.no (aD _)) (aD _)) hH ?_|refine I2 0 j rfl rfl rfl rfl rfl rfl rfl rfl (zero_le _) a9 (.inl rfl) ?_|fail
   exact nz trivial (hb:=by simp[aM,AV.aa,aC,aR,l,p]) (h3:=by rw[and_eq_true];exact⟨a,rfl⟩)
  ·repeat' first|refine .s1 ?_|(refine .q ?_ ?_<;>intro O)|fail
   exact nz trivial (hb:=by simp[aM,AV.aa,aC,aR,l,p]) (h3:=by rw[and_eq_true];exact⟨a,rfl⟩)
 ·subst u w;rcases ab with n1|⟨n1,n2,n3⟩
  ·repeat' first|refine .br ?_|refine .s1 ?_|(refine .q ?_ ?_<;>intro O)|fail
   exact bW
  ·rw[n3]at a6
   repeat' first|refine .br ?_|refine .s1 ?_|(refine .q ?_ ?_<;>intro O)|fail
   exact bW
end Go.Proofs.YtdodieljpcfpcaaGreatDoor
