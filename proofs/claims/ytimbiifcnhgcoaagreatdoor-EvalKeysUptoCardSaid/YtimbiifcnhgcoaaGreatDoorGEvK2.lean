/- Joined texts. -/
import Derived.Test.YtimbiifcnhgcoaaGreatDoorTable
import Derived.Test.YtimbiifcnhgcoaaGreatDoorShelf
set_option maxRecDepth 100000
set_option maxHeartbeats 16000000
set_option linter.all false
open List (any_eq_true drop_eq_getElem_cons drop_eq_nil_of_le getElem_mem length_drop)
open Nat (le_refl zero_le)
open Go Go.Av Go.Proofs.YtimbiifcnhgcoaaGreatDoor Go.Proofs.Tryz
variable{α:Type}{r:AV}{b:Bool}{c:Code}{a:Int}{xs:List AV}{k z:Nat}{x y:Operand}{Q:Prop}{T U:TypeId}
namespace Go.Proofs.YtimbiifcnhgcoaaGreatDoor
open Go Go.Av Go.Proofs.Tryz
abbrev AG:=List UInt8
theorem bH{α:Type}{f:α->AV}(h:∀x,(f x).K=true):∀l:List α,aA (l.map f)=true
 |[]=>rfl
 |x::l=>by simp[aA,h x,bH h l]
def dP(n:Nat):AQ prog n 9 false (λx:AG => .str x) (λx=>x.length+1) (λ_=>True):=AQ.string underlying9
def nQ(n:Nat):AQ prog n 3 false (λx:Int => .int .i64 x) (λ_=>1) (λx=>(Lit.int .i64 x).wf=true):=AQ.int underlying3
mutual
inductive AH where
 |mk (kind n:Int) (s:AG) (l:List AH) (m:List AF)
inductive AF where
 |mk (name:AG) (v:AH)
end
def AH.kind:AH->Int
 | .mk k _ _ _ _=>k
def AH.n:AH->Int
 | .mk _ n _ _ _=>n
def AH.s:AH->AG
 | .mk _ _ s _ _=>s
def AH.l:AH->List AH
 | .mk _ _ _ l _=>l
def AH.m:AH->List AF
 | .mk _ _ _ _ m=>m
def AF.name:AF->AG
 | .mk n _=>n
def AF.v:AF->AH
 | .mk _ v=>v
mutual
def AH.lv:AH->List AV
 | .mk _ _ _ l _=>tJ l
def AH.mv:AH->List AV
 | .mk _ _ _ _ m=>tK m
def tJ:List AH->List AV
 |[]=>[]
 |v::l => .agg [.int .i64 v.kind, .int .i64 v.n, .str v.s, .slice (AH.lv v) .no, .slice (AH.mv v) .no]::tJ l
def tK:List AF->List AV
 |[]=>[]
 | .mk name v::l => .agg [.str name, .int .i64 v.kind, .int .i64 v.n, .str v.s, .slice (AH.lv v) .no, .slice (AH.mv v) .no]::tK l
end
def AH.C(v:AH):AV := .agg [.int .i64 v.kind, .int .i64 v.n, .str v.s, .slice v.lv .no, .slice v.mv .no]
def AF.C(m:AF):AV := .agg [.str m.name, .int .i64 m.v.kind, .int .i64 m.v.n, .str m.v.s, .slice m.v.lv .no, .slice m.v.mv .no]
theorem Dz:∀l:List AH,tJ l=l.map AH.C
 |[]=>by simp[tJ]
 |v::l=>by rw[tJ,Dz l];rfl
theorem DA:∀l:List AF,tK l=l.map AF.C
 |[]=>by simp[tK]
 | .mk n v::l=>by rw[tK,DA l];rfl
theorem AH.b1(v:AH):v.lv=v.l.map AH.C:=by cases v;rw[AH.lv,Dz];rfl
theorem AH.bh(v:AH):v.mv=v.m.map AF.C:=by cases v;rw[AH.mv,DA];rfl
theorem AH.bb(v:AH):v.lv.length=v.l.length:=by simp[AH.b1]
theorem AH.bn(v:AH):v.mv.length=v.m.length:=by simp[AH.bh]
def lD{v:AH}(h:k<v.l.length):v.lv[k]? =some v.l[k].C:=by grind[AH.b1]
def rX{v:AH}(h:k<v.m.length):v.mv[k]? =some v.m[k].C:=by grind[AH.bh]
mutual
theorem AH.K:∀v:AH,v.C.K=true
 | .mk k n s l m=>by simp only[AH.C,AV.K,aA,Bool.and_true,Bool.true_and];rw[AH.lv,AH.mv,y8 l,y9 m];rfl
theorem y8:∀l:List AH,aA (tJ l)=true
 |[]=>by simp[tJ,aA]
 |v::l=>by have a:=AH.K v;have b:=y8 l;rw[tJ,aA,b,Bool.and_true];exact a
theorem y9:∀l:List AF,aA (tK l)=true
 |[]=>by simp[tK,aA]
 | .mk n v::l=>by have a:=AH.K v;have b:=y9 l;rw[tK,aA,b,Bool.and_true];simpa only [AH.C,AV.K,aA,Bool.and_true,Bool.true_and]using a
end
theorem AH.bp(v:AH):aA v.lv=true:=by cases v;rw[AH.lv];exact y8 _
theorem AH.bs(v:AH):aA v.mv=true:=by cases v;rw[AH.mv];exact y9 _
theorem AF.K(m:AF):m.C.K=true:=by simp only[AF.C,AV.K,aA,AH.bp,AH.bs];rfl
theorem AF.fits(m:AF):Av.fits true 6 m.C=true:=rfl
mutual
def AH.size:AH->Nat
 | .mk _ _ s l m=>s.length+iL l+mR m+6
def iL:List AH->Nat
 |[]=>0
 |v::l=>AH.size v+iL l
def mR:List AF->Nat
 |[]=>0
 | .mk n v::l=>n.length+2+AH.size v+mR l
end
def AF.size(m:AF):Nat:=m.name.length+2+m.v.size
theorem vZ:∀l:List AH,iL l=aC AH.size l
 |[]=>by simp[iL,aC]
 |v::l=>by rw[iL,aC,vZ l]
theorem iM:∀l:List AF,mR l=aC AF.size l
 |[]=>by simp[mR,aC]
 | .mk n v::l=>by rw[mR,aC,iM l];rfl
theorem AH.ay(v:AH):v.size=v.s.length+aC AH.size v.l+aC AF.size v.m+6:=by cases v;rw[AH.size,vZ,iM];rfl
theorem AH.au(v:AH):1<=v.size:=by simp[AH.ay]
theorem AF.au(m:AF):1<=m.size:=X5
def dK{v:AH}(h:k<v.l.length):v.l[k].size<v.size:=by have:=aN (size:=AH.size) (getElem_mem h);rw[v.ay];omega
def dQ{v:AH}(h:k<v.m.length):v.m[k].v.size<v.size:=Xh
theorem AH.bt(v:AH):v.l.length<=v.size:=by have:=aJ AH.au v.l;rw[v.ay];omega
theorem AH.b3(v:AH):v.m.length<=v.size:=by have:=aJ AF.au v.m;rw[v.ay];omega
mutual
def AH.ok:AH->Prop
 | .mk k n _ l m=>(Lit.int .i64 k).wf=true/\(Lit.int .i64 n).wf=true/\lW l/\lX m
def lW:List AH->Prop
 |[]=>True
 |v::l=>AH.ok v/\lW l
def lX:List AF->Prop
 |[]=>True
 | .mk _ v::l=>AH.ok v/\lX l
end
def AF.ok(m:AF):Prop:=m.v.ok
def DB:∀ {l:List AH},(∀x∈l,x.ok)->lW l
 |[],_=>by rw[lW];trivial
 |v::l,h=>by rw[lW];exact⟨h v Wb,DB λx hx=>h x Yq⟩
def DC:∀ {l:List AF},(∀x∈l,x.ok)->lX l
 |[],_=>by rw[lX];trivial
 | .mk n v::l,h=>by rw[lX];exact⟨h (.mk n v) Wb,DC λx hx=>h x Yq⟩
def Po(n:Nat):AQ prog n 2 false (λx:Int => .int .i64 x) (λ_=>1) (λx=>(Lit.int .i64 x).wf=true):=AQ.int underlying2
theorem AQ.zero{P:Program}{t:TypeId}{agg:Bool}{α:Type}{b:α->AV}{size:α->Nat}{ok:α->Prop}:AQ P 0 t agg b size ok:=λ_ _ _ a _ _ _ d c=>by
 cases a with
 |zero=>simp[DataW.trod]at c
 |succ m=>omega
def DD:∀n:Nat,AQ prog n 43 true AH.C AH.size AH.ok/\AQ prog n 41 false (λl => .slice (l.map AH.C) .no) (λl=>aC AH.size l+1) (λl=>∀x∈l,x.ok)/\
  AQ prog n 56 true AF.C AF.size AF.ok/\AQ prog n 29 false (λl => .slice (l.map AF.C) .no) (λl=>aC AF.size l+1) (λl=>∀x∈l,x.ok)
 |0=>⟨AQ.zero,AQ.zero,AQ.zero,AQ.zero⟩
 |n+1=>by
  obtain⟨a,b,h3,h4⟩:=DD n;refine⟨?_,AQ.slice underlying41 (c:=5) Wc Wd a, ?_,AQ.slice underlying29 (c:=6) Wc Wd h3⟩
  ·refine(AQ.struct underlying43 Wc
    (AW.cons (c:=1) rfl Wc (bM λ_=>rfl) (nQ n)
     (AW.cons (c:=1) rfl Wc (bM λ_=>rfl) (Po n)
      (AW.cons (c:=1) rfl Wc (bM λ_=>rfl) (dP n)
       (AW.cons (c:=1) rfl Wc (bM λ_=>rfl) b
        (AW.cons (c:=1) rfl Wc (bM λ_=>rfl) h4 AW.nil)))))).map
    (λx=>AH.mk x.1 x.2.1 x.2.2.1 x.2.2.2.1 x.2.2.2.2.1) (λx=> ?_) (λx=> ?_) (λx h=> ?_)
   ·simp only[AH.C,AH.lv,AH.mv,Dz,DA];rfl
   ·simp only[AH.size,vZ,iM];omega
   ·rw[AH.ok];exact⟨h.1,h.2.1,DB h.2.2.2.1,DC h.2.2.2.2.1⟩
  ·refine(AQ.struct underlying56 Wc
    (AW.cons (c:=1) rfl Wc (bM λ_=>rfl) (dP n)
     (AW.cons (c:=5) rfl Wc (kN λ_=>⟨_,rfl⟩) a AW.nil))).map
    (λx=>AF.mk x.1 x.2.1) (λx=> ?_) (λx=> ?_) (λx h=>h.2.1)
   ·rfl
   ·show AF.size _<=_;unfold AF.size;simp only[AF.name,AF.v];omega
def H0(n:Nat):AQ prog n 43 true AH.C AH.size AH.ok:=(DD n).1
def tL(n:Nat):AQ prog n 29 false (λl => .slice (l.map AF.C) .no) (λl=>aC AF.size l+1) (λl=>∀x∈l,x.ok):=(DD n).2.2.2
mutual
def o6:AH->AH->Bool
 | .mk k n s l m, .mk k' n' s' l' m'=> k==k'&& n==n'&& s==s'&& oF l l'&& nH m m'
def oF:List AH->List AH->Bool
 |[],[]=>true
 |a::l,b::l'=> o6 a b&&oF l l'
 |_,_=>false
def nH:List AF->List AF->Bool
 |[],[]=>true
 | .mk n a::l, .mk n' b::l'=> n==n'&& o6 a b&&nH l l'
 |_,_=>false
end
theorem mG(n m:Nat)(v:AH):aE n m v.lv=true:=aD n m _ v.bp
theorem mI(n m:Nat)(v:AH):aE n m v.mv=true:=aD n m _ v.bs
def Q4(a b:AH):o6 a b=(a.kind==b.kind&&a.n==b.n&&a.s==b.s&&oF a.l b.l&&nH a.m b.m):=by cases a;cases b;rw[o6];rfl
theorem H1:∀ {p q:List AH},p.length≠q.length->oF p q=false
 |[],[],h=>absurd rfl h
 |[],_::_,_=>by rw[oF]<;>simp
 |_::_,[],_=>by rw[oF]<;>simp
 |a::p,b::q,h=>by rw[oF,H1 (p:=p) (q:=q) Wu,Bool.and_false]
theorem H2:∀ {p q:List AF},p.length≠q.length->nH p q=false
 |[],[],h=>absurd rfl h
 |[],_::_,_=>by rw[nH]<;>simp
 | .mk _ _::_,[],_=>by rw[nH]<;>simp
 | .mk _ _::p, .mk _ _::q,h=>by rw[nH,H2 (p:=p) (q:=q) Wu,Bool.and_false]
theorem FT{a b:List AH}(c:k<a.length)(d:k<b.length):oF (a.drop k) (b.drop k)=(o6 a[k] b[k]&&oF (a.drop (k+1)) (b.drop (k+1))):=by rw[drop_eq_getElem_cons c,drop_eq_getElem_cons d,oF]
theorem FU{a b:List AF}(c:k<a.length)(d:k<b.length):nH (a.drop k) (b.drop k)=(a[k].name==b[k].name&&o6 a[k].v b[k].v&&nH (a.drop (k+1)) (b.drop (k+1))):=by rw[drop_eq_getElem_cons c,drop_eq_getElem_cons d];cases a[k];cases b[k];rw[nH];rfl
def aV{f:α->AV}{l:List α}(h:k<l.length):(l.map f)[k]? =some (f l[k]):=YW
theorem aR(l:List AF):aA (l.map AF.C)=true:=bH AF.K l
def Kv(l:List AH):aA (l.map AH.C)=true:=bH AH.K l
theorem dG(n m:Nat)(l:List AF):aE n m (l.map AF.C)=true:=aD n m _ (aR l)
def Q5(n m:Nat)(l:List AH):aE n m (l.map AH.C)=true:=aD n m _ (Kv l)
structure Ac where
 name:AG
 an:Int
 az:Int
 deriving DecidableEq
def Ac.C(t:Ac):AV := .agg [.str t.name, .int .i64 t.an, .int .i64 t.az]
structure AO where
 name:AG
 args:List AF
def AO.C(d:AO):AV := .agg [.str d.name, .slice (d.args.map AF.C) .no]
structure AP where
 name:AG
 t:Ac
 has:Bool
 d:AH
def AP.C(p:AP):AV := .agg [.str p.name, .str p.t.name, .int .i64 p.t.an, .int .i64 p.t.az, .bool p.has, .int .i64 p.d.kind, .int .i64 p.d.n, .str p.d.s, .slice p.d.lv .no, .slice p.d.mv .no]
structure Ag where
 name:AG
 params:List AP
 t:Ac
 ar:List AO
def Ag.C(f:Ag):AV := .agg [.str f.name, .slice (f.params.map AP.C) .no, .str f.t.name, .int .i64 f.t.an, .int .i64 f.t.az, .slice (f.ar.map AO.C) .no]
structure Ah where
 kind:Int
 name:AG
 faces:List AG
 fields:List Ag
 ax:List AG
 params:List AP
def Ah.C(d:Ah):AV := .agg [.int .i64 d.kind, .str d.name, .slice (d.faces.map AV.str) .no, .slice (d.fields.map Ag.C) .no, .slice (d.ax.map AV.str) .no, .slice (d.params.map AP.C) .no]
structure AJ where
 ai:List Ah
 query:AG
 av:AG
def AJ.C(s:AJ):AV := .agg [.slice (s.ai.map Ah.C) .no, .str s.query, .str s.av]
structure CW where
 var:AG
 t:Ac
 has:Bool
 deriving DecidableEq
def CW.C(x:CW):AV := .agg [.str x.var, .str x.t.name, .int .i64 x.t.an, .int .i64 x.t.az, .bool x.has]
theorem aT(l:List AG):aA (l.map AV.str)=true:=bH (λ_=>rfl) l
theorem qM(l:List Int):aA (l.map (AV.int .i64))=true:=bH (λ_=>rfl) l
@[simp] theorem aCE(n m:Nat)(l:List Int):aE n m (List.map (AV.int .i64) l)=true:=aD n m _ (qM l)
theorem Ac.K(t:Ac):t.C.K=true:=rfl
theorem AO.K(d:AO):d.C.K=true:=by simp[AO.C,AV.K,aA,aR]
theorem b9(l:List AO):aA (l.map AO.C)=true:=bH AO.K l
theorem AP.K(p:AP):p.C.K=true:=by simp[AP.C,AV.K,aA,AH.bp,AH.bs]
theorem bZ(l:List AP):aA (l.map AP.C)=true:=bH AP.K l
theorem Ag.K(f:Ag):f.C.K=true:=by simp[Ag.C,AV.K,aA,bZ,b9]
theorem jS(l:List Ag):aA (l.map Ag.C)=true:=bH Ag.K l
theorem Ah.K(d:Ah):d.C.K=true:=by simp[Ah.C,AV.K,aA,bZ,jS,aT]
theorem iS(l:List Ah):aA (l.map Ah.C)=true:=bH Ah.K l
theorem AJ.K(s:AJ):s.C.K=true:=by simp[AJ.C,AV.K,aA,iS]
@[simp] theorem aCF(n m:Nat)(l:List _):aE n m (List.map AV.str l)=true:=aD n m _ (aT l)
@[simp] theorem aBf(n m:Nat)(l:List _):aE n m (List.map AO.C l)=true:=aD n m _ (b9 l)
@[simp] theorem aCG(n m:Nat)(l:List _):aE n m (List.map AP.C l)=true:=aD n m _ (bZ l)
@[simp] theorem aCH(n m:Nat)(l:List _):aE n m (List.map Ag.C l)=true:=aD n m _ (jS l)
@[simp] theorem aCI(n m:Nat)(l:List _):aE n m (List.map Ah.C l)=true:=aD n m _ (iS l)
@[simp] theorem aCJ(n m:Nat)(l:List _):aE n m (List.map AF.C l)=true:=aD n m _ (aR l)
@[simp] theorem aD5(n m:Nat)(v:AH):aE n m v.lv=true:=aD n m _ v.bp
@[simp] theorem aD6(n m:Nat)(v:AH):aE n m v.mv=true:=aD n m _ v.bs
@[simp] theorem aD7(n m:Nat)(x:Ac):(Ac.C x).ab n m=true:=aF n m _ (Ac.K x)
@[simp] theorem aD8(n m:Nat)(x:Ah):(Ah.C x).ab n m=true:=aF n m _ (Ah.K x)
@[simp] theorem aD9(n m:Nat)(x:AJ):(AJ.C x).ab n m=true:=aF n m _ (AJ.K x)
@[simp] theorem aDa(n m:Nat)(x:AH):(AH.C x).ab n m=true:=aF n m _ (AH.K x)
def Kw(l:List AG):Av.eK false 1 (l.map AV.str)=true:=iJ (λ_=>rfl) l
def Ac.size(t:Ac):Nat:=t.name.length+4
def AO.size(d:AO):Nat:=d.name.length+aC AF.size d.args+3
def AP.size(p:AP):Nat:=p.name.length+p.t.size+p.d.size+3
def Ag.size(f:Ag):Nat:=f.name.length+aC AP.size f.params+f.t.size+aC AO.size f.ar+4
def dB(l:List AG):Nat:=aC (λs:AG=>s.length+1) l+1
def Ah.size(d:Ah):Nat:=d.name.length+dB d.faces+aC Ag.size d.fields+dB d.ax+aC AP.size d.params+5
def AJ.size(s:AJ):Nat:=aC Ah.size s.ai+s.query.length+s.av.length+4
def AO.ok(d:AO):Prop:=∀m∈d.args,m.ok
def AP.ok(p:AP):Prop:=p.d.ok
def Ag.ok(f:Ag):Prop:=(∀p∈f.params,p.ok)/\∀d∈f.ar,d.ok
def Ah.ok(d:Ah):Prop:=(∀f∈d.fields,f.ok)/\∀p∈d.params,p.ok
def AJ.ok(s:AJ):Prop:=∀d∈s.ai,d.ok
def Ey(n:Nat):AQ prog n 4 false (λx:Bool => .bool x) (λ_=>1) (λ_=>True):=AQ.bool underlying4
def FV:∀n:Nat,AQ prog n 102 false (λl:List AG => .slice (l.map AV.str) .no) (λl=>aC (λx:AG=>x.length+1) l+1) (λl=>∀x∈l,True)
 |0=>AQ.zero
 |n+1=>AQ.slice underlying102 (c:=1) Wc Wd (dP n)
def DE:∀n:Nat,AQ prog n 84 true Ac.C Ac.size (λ_=>True)
 |0=>AQ.zero
 |n+1=>(AQ.struct underlying84 Wc
   (AW.cons (c:=1) rfl Wc (bM λ_=>rfl) (dP n)
    (AW.cons (c:=1) rfl Wc (bM λ_=>rfl) (nQ n)
     (AW.cons (c:=1) rfl Wc (bM λ_=>rfl) (nQ n) AW.nil)))).map
   (λx=>(⟨x.1,x.2.1,x.2.2.1⟩:Ac)) (λ_=>rfl) (λx=>by simp only[Ac.size];omega) (λx h=>trivial)
def Pp:∀n:Nat,AQ prog n 135 true AO.C AO.size AO.ok
 |0=>AQ.zero
 |n+1=>(AQ.struct underlying135 Wc
   (AW.cons (c:=1) rfl Wc (bM λ_=>rfl) (dP n)
    (AW.cons (c:=1) rfl Wc (bM λ_=>rfl) (tL n) AW.nil))).map
   (λx=>(⟨x.1,x.2.1⟩:AO)) (λ_=>rfl) (λx=>by simp only[AO.size];omega) (λx h=>h.2.1)
def tM:∀n:Nat,AQ prog n 34 false (λl => .slice (l.map AO.C) .no) (λl=>aC AO.size l+1) (λl=>∀x∈l,x.ok)
 |0=>AQ.zero
 |n+1=>AQ.slice underlying34 (c:=2) Wc Wd (Pp n)
def Pq:∀n:Nat,AQ prog n 136 true AP.C AP.size AP.ok
 |0=>AQ.zero
 |n+1=>(AQ.struct underlying136 Wc
   (AW.cons (c:=1) rfl Wc (bM λ_=>rfl) (dP n)
    (AW.cons (c:=3) rfl Wc (kN λ_=>⟨_,rfl⟩) (DE n)
     (AW.cons (c:=1) rfl Wc (bM λ_=>rfl) (Ey n)
      (AW.cons (c:=5) rfl Wc (kN λ_=>⟨_,rfl⟩) (H0 n) AW.nil))))).map
   (λx=>(⟨x.1,x.2.1,x.2.2.1,x.2.2.2.1⟩:AP)) (λ_=>rfl) (λx=>by simp only[AP.size];omega) (λx h=>h.2.2.2.1)
def FW:∀n:Nat,AQ prog n 137 false (λl => .slice (l.map AP.C) .no) (λl=>aC AP.size l+1) (λl=>∀x∈l,x.ok)
 |0=>AQ.zero
 |n+1=>AQ.slice underlying137 (c:=10) Wc Wd (Pq n)
def Pr:∀n:Nat,AQ prog n 139 true Ag.C Ag.size Ag.ok
 |0=>AQ.zero
 |n+1=>(AQ.struct underlying139 Wc
   (AW.cons (c:=1) rfl Wc (bM λ_=>rfl) (dP n)
    (AW.cons (c:=1) rfl Wc (bM λ_=>rfl) (FW n)
     (AW.cons (c:=3) rfl Wc (kN λ_=>⟨_,rfl⟩) (DE n)
      (AW.cons (c:=1) rfl Wc (bM λ_=>rfl) (tM n) AW.nil))))).map
   (λx=>(⟨x.1,x.2.1,x.2.2.1,x.2.2.2.1⟩:Ag)) (λ_=>rfl) (λx=>by simp only[Ag.size];omega) (λx h=>⟨h.2.1,h.2.2.2.1⟩)
def Mn:∀n:Nat,AQ prog n 140 false (λl => .slice (l.map Ag.C) .no) (λl=>aC Ag.size l+1) (λl=>∀x∈l,x.ok)
 |0=>AQ.zero
 |n+1=>AQ.slice underlying140 (c:=6) Wc Wd (Pr n)
def Pt:∀n:Nat,AQ prog n 142 true Ah.C Ah.size Ah.ok
 |0=>AQ.zero
 |n+1=>(AQ.struct underlying142 Wc
   (AW.cons (c:=1) rfl Wc (bM λ_=>rfl) (nQ n)
    (AW.cons (c:=1) rfl Wc (bM λ_=>rfl) (dP n)
     (AW.cons (c:=1) rfl Wc (bM λ_=>rfl) (FV n)
      (AW.cons (c:=1) rfl Wc (bM λ_=>rfl) (Mn n)
       (AW.cons (c:=1) rfl Wc (bM λ_=>rfl) (FV n)
        (AW.cons (c:=1) rfl Wc (bM λ_=>rfl) (FW n) AW.nil))))))).map
   (λx=>(⟨x.1,x.2.1,x.2.2.1,x.2.2.2.1,x.2.2.2.2.1,x.2.2.2.2.2.1⟩:Ah)) (λ_=>rfl) (λx=>by simp only[Ah.size,dB];omega) (λx h=>⟨h.2.2.2.1,h.2.2.2.2.2.1⟩)
def Mo:∀n:Nat,AQ prog n 22 false (λl => .slice (l.map Ah.C) .no) (λl=>aC Ah.size l+1) (λl=>∀x∈l,x.ok)
 |0=>AQ.zero
 |n+1=>AQ.slice underlying22 (c:=6) Wc Wd (Pt n)
def Pu:∀n:Nat,AQ prog n 24 true AJ.C AJ.size AJ.ok
 |0=>AQ.zero
 |n+1=>(AQ.struct underlying24 Wc
   (AW.cons (c:=1) rfl Wc (bM λ_=>rfl) (Mo n)
    (AW.cons (c:=1) rfl Wc (bM λ_=>rfl) (dP n)
     (AW.cons (c:=1) rfl Wc (bM λ_=>rfl) (dP n) AW.nil)))).map
   (λx=>(⟨x.1,x.2.1,x.2.2.1⟩:AJ)) (λ_=>rfl) (λx=>by simp only[AJ.size];omega) (λx h=>h.1)
inductive Sl where
 |mk (kind:Int) (bm name:AG) (args:List AF) (ar:List AO) (on:AG) (w:List Sl)
def Sl.kind:Sl->Int
 | .mk k _ _ _ _ _ _=>k
def Sl.bm:Sl->AG
 | .mk _ a _ _ _ _ _=>a
def Sl.name:Sl->AG
 | .mk _ _ n _ _ _ _=>n
def Sl.args:Sl->List AF
 | .mk _ _ _ a _ _ _=>a
def Sl.ar:Sl->List AO
 | .mk _ _ _ _ d _ _=>d
def Sl.on:Sl->AG
 | .mk _ _ _ _ _ o _=>o
def Sl.O:Sl->List Sl
 | .mk _ _ _ _ _ _ l=>l
mutual
def Sl.sv:Sl->List AV
 | .mk _ _ _ _ _ _ l=>v6 l
def v6:List Sl->List AV
 |[]=>[]
 |x::l => .agg [.int .i64 x.kind, .str x.bm, .str x.name, .slice (x.args.map AF.C) .no, .slice (x.ar.map AO.C) .no, .str x.on, .slice (Sl.sv x) .no]::v6 l
end
def Sl.C(x:Sl):AV := .agg [.int .i64 x.kind, .str x.bm, .str x.name, .slice (x.args.map AF.C) .no, .slice (x.ar.map AO.C) .no, .str x.on, .slice x.sv .no]
theorem xT:∀l:List Sl,v6 l=l.map Sl.C
 |[]=>by simp[v6]
 |x::l=>by rw[v6,xT l];rfl
theorem Sl.bc(x:Sl):x.sv=x.O.map Sl.C:=by cases x;rw[Sl.sv,xT];rfl
def Sl.cj(x:Sl):x.sv.length=x.O.length:=by simp[Sl.bc]
mutual
theorem Sl.K:∀x:Sl,x.C.K=true
 | .mk k a n m d o l=>by simp only[Sl.C,AV.K,aA,Bool.and_true,Bool.true_and,aR,b9];rw[Sl.sv,zA l]
theorem zA:∀l:List Sl,aA (v6 l)=true
 |[]=>by simp[v6,aA]
 |x::l=>by have a:=Sl.K x;have b:=zA l;rw[v6,aA,b,Bool.and_true];exact a
end
theorem aZ(l:List Sl):aA (l.map Sl.C)=true:=by rw[<-xT];exact zA l
theorem Sl.cb(x:Sl):aA x.sv=true:=by rw[x.bc];exact aZ _
theorem Sl.fits(x:Sl):Av.fits true 7 x.C=true:=rfl
def FX(l:List Sl):Av.eK true 7 (l.map Sl.C)=true:=iJ Sl.fits l
mutual
def Sl.size:Sl->Nat
 | .mk _ a n m d o l=>a.length+n.length+aC AF.size m+aC AO.size d+o.length+fN l+8
def fN:List Sl->Nat
 |[]=>0
 |x::l=>Sl.size x+fN l
end
theorem v7:∀l:List Sl,fN l=aC Sl.size l
 |[]=>by simp[fN,aC]
 |v::l=>by rw[fN,aC,v7 l]
theorem Sl.ay(x:Sl):x.size=x.bm.length+x.name.length+aC AF.size x.args+aC AO.size x.ar+x.on.length+aC Sl.size x.O+8:=by cases x;rw[Sl.size,v7];rfl
theorem Sl.au(x:Sl):1<=x.size:=by simp[Sl.ay]
mutual
def Sl.ok:Sl->Prop
 | .mk k _ _ m d _ l=>(Lit.int .i64 k).wf=true/\(∀x∈m,x.ok)/\(∀x∈d,x.ok)/\DF l
def DF:List Sl->Prop
 |[]=>True
 |x::l=>Sl.ok x/\DF l
end
def DG:∀ {l:List Sl},(∀x∈l,x.ok)->DF l
 |[],_=>by rw[DF];trivial
 |v::l,h=>by rw[DF];exact⟨h v Wb,DG λx hx=>h x Yq⟩
def FY:∀ {l:List Sl},DF l->∀x∈l,x.ok
 |[],_,_,h=>by cases h
 |v::l,h,x,hx=>by
  rcases List.mem_cons.1 hx with rfl|hx
  ·exact h.1
  ·exact FY h.2 x hx
theorem Sl.b4(x:Sl):x.ok↔(Lit.int .i64 x.kind).wf=true/\(∀m∈x.args,m.ok)/\(∀d∈x.ar,d.ok)/\∀y∈x.O,y.ok:=by cases x;exact⟨λh=>⟨h.1,h.2.1,h.2.2.1,FY h.2.2.2⟩,λh=>⟨h.1,h.2.1,h.2.2.1,DG h.2.2.2⟩⟩
structure Ak where
 kind:Int
 name:AG
 vars:List AP
 ar:List AO
 O:List Sl
def Ak.C(o:Ak):AV := .agg [.int .i64 o.kind, .str o.name, .slice (o.vars.map AP.C) .no, .slice (o.ar.map AO.C) .no, .slice (o.O.map Sl.C) .no]
structure Af where
 name:AG
 on:AG
 ar:List AO
 O:List Sl
def Af.C(f:Af):AV := .agg [.str f.name, .str f.on, .slice (f.ar.map AO.C) .no, .slice (f.O.map Sl.C) .no]
structure AR where
 ops:List Ak
 aj:List Af
def AR.C(d:AR):AV := .agg [.slice (d.ops.map Ak.C) .no, .slice (d.aj.map Af.C) .no]
structure Au where
 aw:AG
 x:Sl
def Au.C(p:Au):AV := .agg [.str p.aw, .int .i64 p.x.kind, .str p.x.bm, .str p.x.name, .slice (p.x.args.map AF.C) .no, .slice (p.x.ar.map AO.C) .no, .str p.x.on, .slice p.x.sv .no]
structure AT where
 key:AG
 O:List Sl
def AT.C(g:AT):AV := .agg [.str g.key, .slice (g.O.map Sl.C) .no]
theorem Ak.K(o:Ak):o.C.K=true:=by simp[Ak.C,AV.K,aA,bZ,b9,aZ]
theorem Af.K(f:Af):f.C.K=true:=by simp[Af.C,AV.K,aA,b9,aZ]
theorem AT.K(g:AT):g.C.K=true:=by simp[AT.C,AV.K,aA,aZ]
theorem Au.K(p:Au):p.C.K=true:=by simp[Au.C,AV.K,aA,aR,b9,Sl.cb]
theorem kD(l:List Ak):aA (l.map Ak.C)=true:=bH Ak.K l
theorem uR(l:List Af):aA (l.map Af.C)=true:=bH Af.K l
theorem cH(l:List AT):aA (l.map AT.C)=true:=bH AT.K l
theorem eU(l:List Au):aA (l.map Au.C)=true:=bH Au.K l
theorem Au.fits(d:Au):Av.fits true 8 d.C=true:=rfl
theorem tX(l:List Au):Av.eK true 8 (l.map Au.C)=true:=iJ Au.fits l
theorem AR.K(d:AR):d.C.K=true:=by simp[AR.C,AV.K,aA,kD,uR]
@[simp] theorem TG(n m:Nat)(l:List _):aE n m (List.map Sl.C l)=true:=aD n m _ (aZ l)
@[simp] theorem aCK(n m:Nat)(l:List _):aE n m (List.map Ak.C l)=true:=aD n m _ (kD l)
@[simp] theorem aCL(n m:Nat)(l:List _):aE n m (List.map Af.C l)=true:=aD n m _ (uR l)
@[simp] theorem aCM(n m:Nat)(l:List _):aE n m (List.map AT.C l)=true:=aD n m _ (cH l)
@[simp] theorem aDb(n m:Nat)(x:Sl):aE n m x.sv=true:=aD n m _ x.cb
@[simp] theorem aDh(n m:Nat)(x:Sl):(Sl.C x).ab n m=true:=aF n m _ (Sl.K x)
@[simp] theorem aDc(n m:Nat)(x:Ak):(Ak.C x).ab n m=true:=aF n m _ (Ak.K x)
@[simp] theorem aDd(n m:Nat)(x:AR):(AR.C x).ab n m=true:=aF n m _ (AR.K x)
def Ak.size(o:Ak):Nat:=o.name.length+aC AP.size o.vars+aC AO.size o.ar+aC Sl.size o.O+6
def Af.size(f:Af):Nat:=f.name.length+f.on.length+aC AO.size f.ar+aC Sl.size f.O+4
def AR.size(d:AR):Nat:=aC Ak.size d.ops+aC Af.size d.aj+3
def Ak.ok(o:Ak):Prop:=(∀p∈o.vars,p.ok)/\(∀d∈o.ar,d.ok)/\∀x∈o.O,x.ok
def Af.ok(f:Af):Prop:=(∀d∈f.ar,d.ok)/\∀x∈f.O,x.ok
def AR.ok(d:AR):Prop:=(∀o∈d.ops,o.ok)/\∀f∈d.aj,f.ok
def DH:∀n:Nat,AQ prog n 144 true Sl.C Sl.size Sl.ok/\AQ prog n 35 false (λl => .slice (l.map Sl.C) .no) (λl=>aC Sl.size l+1) (λl=>∀x∈l,x.ok)
 |0=>⟨AQ.zero,AQ.zero⟩
 |n+1=>by
  obtain⟨a,b⟩:=DH n;refine⟨?_,AQ.slice underlying35 (c:=7) Wc Wd a⟩;refine(AQ.struct underlying144 Wc
   (AW.cons (c:=1) rfl Wc (bM λ_=>rfl) (nQ n)
    (AW.cons (c:=1) rfl Wc (bM λ_=>rfl) (dP n)
     (AW.cons (c:=1) rfl Wc (bM λ_=>rfl) (dP n)
      (AW.cons (c:=1) rfl Wc (bM λ_=>rfl) (tL n)
       (AW.cons (c:=1) rfl Wc (bM λ_=>rfl) (tM n)
        (AW.cons (c:=1) rfl Wc (bM λ_=>rfl) (dP n)
         (AW.cons (c:=1) rfl Wc (bM λ_=>rfl) b AW.nil)))))))).map
   (λx=>Sl.mk x.1 x.2.1 x.2.2.1 x.2.2.2.1 x.2.2.2.2.1 x.2.2.2.2.2.1 x.2.2.2.2.2.2.1) (λx=> ?_) (λx=> ?_) (λx h=> ?_)
  ·simp only[Sl.C,Sl.sv,xT];rfl
  ·simp only[Sl.size,v7];omega
  ·rw[Sl.ok];exact⟨h.1,h.2.2.2.1,h.2.2.2.2.1,DG h.2.2.2.2.2.2.1⟩
def Mp:∀n:Nat,AQ prog n 125 true AP.C AP.size AP.ok
 |0=>AQ.zero
 |n+1=>(AQ.struct underlying125 Wc
   (AW.cons (c:=1) rfl Wc (bM λ_=>rfl) (dP n)
    (AW.cons (c:=3) rfl Wc (kN λ_=>⟨_,rfl⟩) (DE n)
     (AW.cons (c:=1) rfl Wc (bM λ_=>rfl) (Ey n)
      (AW.cons (c:=5) rfl Wc (kN λ_=>⟨_,rfl⟩) (H0 n) AW.nil))))).map
   (λx=>(⟨x.1,x.2.1,x.2.2.1,x.2.2.2.1⟩:AP)) (λ_=>rfl) (λx=>by simp only[AP.size];omega) (λx h=>h.2.2.2.1)
def Kx:∀n:Nat,AQ prog n 33 false (λl => .slice (l.map AP.C) .no) (λl=>aC AP.size l+1) (λl=>∀x∈l,x.ok)
 |0=>AQ.zero
 |n+1=>AQ.slice underlying33 (c:=10) Wc Wd (Mp n)
def Q6:∀n:Nat,AQ prog n 37 true Ak.C Ak.size Ak.ok
 |0=>AQ.zero
 |n+1=>(AQ.struct underlying37 Wc
   (AW.cons (c:=1) rfl Wc (bM λ_=>rfl) (nQ n)
    (AW.cons (c:=1) rfl Wc (bM λ_=>rfl) (dP n)
     (AW.cons (c:=1) rfl Wc (bM λ_=>rfl) (Kx n)
      (AW.cons (c:=1) rfl Wc (bM λ_=>rfl) (tM n)
       (AW.cons (c:=1) rfl Wc (bM λ_=>rfl) (DH n).2 AW.nil)))))).map
   (λx=>(⟨x.1,x.2.1,x.2.2.1,x.2.2.2.1,x.2.2.2.2.1⟩:Ak)) (λ_=>rfl) (λx=>by simp only[Ak.size];omega) (λx h=>⟨h.2.2.1,h.2.2.2.1,h.2.2.2.2.1⟩)
def Pv:∀n:Nat,AQ prog n 25 false (λl => .slice (l.map Ak.C) .no) (λl=>aC Ak.size l+1) (λl=>∀x∈l,x.ok)
 |0=>AQ.zero
 |n+1=>AQ.slice underlying25 (c:=5) Wc Wd (Q6 n)
def Mq:∀n:Nat,AQ prog n 120 true Af.C Af.size Af.ok
 |0=>AQ.zero
 |n+1=>(AQ.struct underlying120 Wc
   (AW.cons (c:=1) rfl Wc (bM λ_=>rfl) (dP n)
    (AW.cons (c:=1) rfl Wc (bM λ_=>rfl) (dP n)
     (AW.cons (c:=1) rfl Wc (bM λ_=>rfl) (tM n)
      (AW.cons (c:=1) rfl Wc (bM λ_=>rfl) (DH n).2 AW.nil))))).map
   (λx=>(⟨x.1,x.2.1,x.2.2.1,x.2.2.2.1⟩:Af)) (λ_=>rfl) (λx=>by simp only[Af.size];omega) (λx h=>⟨h.2.2.1,h.2.2.2.1⟩)
def Ky:∀n:Nat,AQ prog n 26 false (λl => .slice (l.map Af.C) .no) (λl=>aC Af.size l+1) (λl=>∀x∈l,x.ok)
 |0=>AQ.zero
 |n+1=>AQ.slice underlying26 (c:=4) Wc Wd (Mq n)
def Pw:∀n:Nat,AQ prog n 28 true AR.C AR.size AR.ok
 |0=>AQ.zero
 |n+1=>(AQ.struct underlying28 Wc
   (AW.cons (c:=1) rfl Wc (bM λ_=>rfl) (Pv n)
    (AW.cons (c:=1) rfl Wc (bM λ_=>rfl) (Ky n) AW.nil))).map
   (λx=>(⟨x.1,x.2.1⟩:AR)) (λ_=>rfl) (λx=>by simp only[AR.size];omega) (λx h=>⟨h.1,h.2.1⟩)
end Go.Proofs.YtimbiifcnhgcoaaGreatDoor
namespace Go.Av
open Go
variable [AL]
structure BY(Q:Prop):Prop where
 val:Q
theorem AB.go{P:Program}[Lay P]{N:Nat}{D:List Deferred}{K:AX->AE->St->Prop}{s:AE}{H:St}(q:Q)
  (h:BY Q->AB P N D c K s H:=by intro q;(repeat' first|refine .seq ?_|refine .rg ?_|refine .rd ?_|refine .block ?_|refine .scope ?_|refine .skip ?_|refine .label ?_|refine .exit ?_|refine .ret ?_|refine .ct ?_|refine .cf ?_|refine .cy ?_|refine .cn ?_|(refine .cond rfl ?_ ?_<;>intro O)|refine cT ?_|refine .nl ?_|refine .dd ?_|refine .ys ?_|refine .no ?_|(refine fH rfl ?_ ?_<;>intro O)|refine .lb ?_|refine .ln ?_|refine .ls ?_|refine .pv ?_|refine .ix ?_|refine .pt ?_|refine .pf ?_|refine .bx ?_|refine .al ?_|refine .st ?_|refine .ad ?_|refine .sb ?_|refine .mf ?_|refine .cl ?_|refine .cw ?_|refine .ck ?_|fail);exact q.val):AB P N D c K s H:=h ⟨q⟩
theorem AD.go{P:Program}[Lay P]{A:Array Oper}{G:Bool}{l:List Oper}{K:AX->AE->St->Prop}{I:List Aj}{s:AE}{H:St}(q:Q)
  (h:BY Q->AD P A G K l I s H:=by intro q;(repeat' first|refine .seq ?_|refine .rg ?_|refine .rd ?_|refine .block ?_|refine .scope ?_|refine .skip ?_|refine .label ?_|refine .exit ?_|refine .ret ?_|refine .ct ?_|refine .cf ?_|refine .cy ?_|refine .cn ?_|(refine .cond rfl ?_ ?_<;>intro O)|refine cT ?_|refine .nl ?_|refine .dd ?_|refine .ys ?_|refine .no ?_|(refine fH rfl ?_ ?_<;>intro O)|refine .lb ?_|refine .ln ?_|refine .ls ?_|refine .pv ?_|refine .ix ?_|refine .pt ?_|refine .pf ?_|refine .bx ?_|refine .al ?_|refine .st ?_|refine .ad ?_|refine .sb ?_|refine .mf ?_|refine .cl ?_|refine .cw ?_|refine .ck ?_|fail);exact q.val):AD P A G K l I s H:=h ⟨q⟩
theorem AB.ae{P:Program}[Lay P]{N:Nat}{D:List Deferred}{K:AX->AE->St->Prop}{s:AE}{H:St}(q:Q)
  (h:BY Q->AB P N D c K s H:=by intro q;(repeat' first|refine .br ?_|refine .seq ?_|refine .rg ?_|refine .rd ?_|refine .block ?_|refine .scope ?_|refine .skip ?_|refine .label ?_|refine .exit ?_|refine .ret ?_|refine .ct ?_|refine .cf ?_|refine .cy ?_|refine .cn ?_|(refine .cond rfl ?_ ?_<;>intro O)|refine cT ?_|refine .nl ?_|refine .dd ?_|refine .ys ?_|refine .no ?_|(refine fH rfl ?_ ?_<;>intro O)|refine .lb ?_|refine .ln ?_|refine .ls ?_|refine .pv ?_|refine .ix ?_|refine .pt ?_|refine .pf ?_|refine .bx ?_|refine .al ?_|refine .st ?_|refine .ad ?_|refine .sb ?_|refine .mf ?_|refine .cl ?_|refine .cw ?_|refine .ck ?_|fail);exact q.val):AB P N D c K s H:=h ⟨q⟩
theorem AB.s1{P:Program}[Lay P]{N:Nat}{D:List Deferred}{K:AX->AE->St->Prop}{s:AE}{H:St}(q:Q)
  (h:BY Q->AB P N D c K s H:=by intro q;(first|refine .seq ?_|refine .rg ?_|refine .rd ?_|refine .block ?_|refine .scope ?_|refine .skip ?_|refine .label ?_|refine .exit ?_|refine .ret ?_|refine .ct ?_|refine .cf ?_|refine .cy ?_|refine .cn ?_|refine cT ?_|refine .nl ?_|refine .dd ?_|refine .ys ?_|refine .no ?_|refine .lb ?_|refine .ln ?_|refine .ls ?_|refine .pv ?_|refine .ix ?_|refine .pt ?_|refine .pf ?_|refine .bx ?_|refine .al ?_|refine .st ?_|refine .ad ?_|refine .sb ?_|refine .mf ?_|refine .cl ?_|refine .cw ?_|refine .ck ?_);exact q.val):AB P N D c K s H:=h ⟨q⟩
theorem AD.s1{P:Program}[Lay P]{A:Array Oper}{G:Bool}{l:List Oper}{K:AX->AE->St->Prop}{I:List Aj}{s:AE}{H:St}(q:Q)
  (h:BY Q->AD P A G K l I s H:=by intro q;(first|refine .seq ?_|refine .rg ?_|refine .rd ?_|refine .block ?_|refine .scope ?_|refine .skip ?_|refine .label ?_|refine .exit ?_|refine .ret ?_|refine .ct ?_|refine .cf ?_|refine .cy ?_|refine .cn ?_|refine cT ?_|refine .nl ?_|refine .dd ?_|refine .ys ?_|refine .no ?_|refine .lb ?_|refine .ln ?_|refine .ls ?_|refine .pv ?_|refine .ix ?_|refine .pt ?_|refine .pf ?_|refine .bx ?_|refine .al ?_|refine .st ?_|refine .ad ?_|refine .sb ?_|refine .mf ?_|refine .cl ?_|refine .cw ?_|refine .ck ?_);exact q.val):AD P A G K l I s H:=h ⟨q⟩
theorem AB.q{P:Program}[Lay P]{N:Nat}{D:List Deferred}{x y:Code}{K:AX->AE->St->Prop}{s:AE}{H:St}{c:Operand}(ht:b=true->AB P N D x K s H)(hf:b=false->AB P N D y K s H)(O:ev s c = .bool b:=by exact rfl):AB P N D (.cond c x y) K s H:=AB.cond O ht hf
theorem AD.q{P:Program}[Lay P]{A:Array Oper}{G:Bool}{K:AX->AE->St->Prop}{C:List Oper}{I:List Aj}{s:AE}{H:St}{dst:Option Tmp}{c:Op}{R:TypeId}{D:String}{S:Array Edge}{j:Nat}{a b:Bool}(e:b=a->AD P A G K (⟨dst,c,R,D,S,none⟩::C) I s H)
  (d:b=(!a)->AD P A G K C (.pure::I) (iG dst (.tup []) s) H) (h:yv A s j=some (.bool b):=by exact rfl):AD P A G K (⟨dst,c,R,D,S,some (j,a)⟩::C) I s H:=fH h e d
theorem aS{P:Program}[Lay P]{f:FuncId}{fn:Func}{args:List AV}{H:St}{o:Av->St->Prop}(ts:List Nat){N:Nat}(hf:P.funcs[f]? =some fn)(h:AB P N [] c (fin ts o) (cD 0 args) H)(hb:fn.body=some c:=by exact rfl)(e:fn.ntmps=N:=by exact rfl)
  (b:(fn.name == "runtime.NumGoroutine")=false:=by exact rfl) (a:Nat.ble args.length N=true:=by exact rfl) (d:fn.results=(ts.map ResultVar.tmp).toArray:=by exact rfl) (hn:ts.length<=6:=by decide):AI P f args H o:=AI.enter ts hf hb e b a d hn h
theorem cE{P:Program}[Lay P]{f:FuncId}{fn:Func}{args:List AV}{H:St}{o:Av->St->Prop}(e:List ResultVar){N:Nat}(hf:P.funcs[f]? =some fn)(h:AB P N [] c (QI P e o) (cD 0 args) H)(hb:fn.body=some c:=by exact rfl)(g:fn.ntmps=N:=by exact rfl)
  (b:(fn.name == "runtime.NumGoroutine")=false:=by exact rfl) (a:Nat.ble args.length N=true:=by exact rfl) (d:fn.results=e.toArray:=by exact rfl):AI P f args H o:=Dv e hf hb g b a d h
def bY{t:Nat}{s:AE}(h:lk? s t=some r:=by exact rfl):∃a,Av.ret (gG s [t]) = .ret a/\AC a r:=aP h (aG _)
def Fin.rb{t:Nat}{s:AE}{r:Bool}(hr:b=r)(h:lk? s t=some (.bool b):=by exact rfl):∃a,Av.ret (gG s [t]) = .ret a/\AC a (.bool r):=aP h (AC.eq (congrArg AV.bool hr))
def aO{P:Program}[Lay P]{a:List ResultVar}{s:AE}{H:St}(h:resK? P s H a nI=some r:=by exact rfl):∃c,resK? P s H a nI=some c/\∃b,Av.ret c = .ret b/\AC b r:=aI h (aG _)
end Go.Av
namespace Go.Proofs.YtimbiifcnhgcoaaGreatDoor
open Go Go.Av Go.Proofs.Tryz
attribute [local irreducible] AB AD AN AI Av.AU AZ
def pD(c:UInt8):Bool:=decide (48<=c.toNat)&&decide (c.toNat<=57)
def HE(c:UInt8):Bool:=decide (97<=c.toNat)&&decide (c.toNat<=122)||decide (65<=c.toNat)&&decide (c.toNat<=90)||decide (c.toNat=95)
def Q7(c:UInt8):AN prog 246 [.int .u8 (c.toNat:Int)] (.bool (pD c)):=by
 refine AI.plain rfl rfl (aS [2] func246 ?_)
 repeat' first|refine .s1 ?_|(refine .q ?_ ?_<;>intro O)|fail
 all_goals
  refine Fin.rb ?_;unfold pD;rw[Bool.eq_iff_iff];simp at *; omega
def TH(c:UInt8):AN prog 245 [.int .u8 (c.toNat:Int)] (.bool (HE c)):=by
 refine AI.plain rfl rfl (aS [2] func245 ?_)
 repeat' first|refine .s1 ?_|(refine .q ?_ ?_<;>intro O)|fail
 all_goals
  refine Fin.rb ?_;unfold HE;rw[Bool.eq_iff_iff];simp at *; omega
theorem f9{s:AG}(h:k<s.length):s[k]? =some s[k]:=YW
def nmC:Bool->AG->Bool
 |_,[]=>true
 |z,c::r=>(HE c||(!z&&pD c))&&nmC false r
def lO(s:AG):Bool:=nmC true s&&decide (s≠[])
theorem v8{z:Bool}{s:AG}(h:k<s.length):nmC z (s.drop k)=((HE s[k]||(!z&&pD s[k]))&&nmC false (s.drop (k+1))):=by rw[drop_eq_getElem_cons h,nmC]
def Vi(s:AG)(hs:s.length<=9223372036854775806):AN prog 179 [.str s] (.bool (lO s)):=by
 refine AI.plain rfl rfl (aS [2] func179 ?_);refine .go ?_;change AB _ _ _ _ _ _ _;refine AB.loop (λn c H=>∃k:Nat,n=s.length-k/\k<=s.length/\nmC true s=nmC (k==0) (s.drop k)/\H=⟨[],[]⟩/\
  c=[(6, .int .i64 k),(5, .int .i64 s.length),(0, .str s)])
  (s0:=[(6, .int .i64 (0:Nat)),(5, .int .i64 s.length),(0, .str s)])
  Z9 ⟨0,rfl,zero_le _,rfl,rfl,rfl⟩ ?_
 rintro n c H ⟨k,rfl,hk,hp,rfl,rfl⟩;by_cases a:k<s.length
 ·have i:decide ((k:Int)<(s.length:Int))=true:=by simp[a]
  have x1:=f9 a;have g:=TH s[k];have f:=Q7 s[k];by_cases b:HE s[k]=true
  ·have e1:(!HE s[k])=false:=by rw[b];rfl
   repeat' first|refine .s1 ?_|(refine .q ?_ ?_<;>intro O)|refine bL rfl rfl rfl rfl rfl Wh ?_|refine aH rfl g (aB _) ?_|refine aH rfl f (aB _) ?_|fail
   refine⟨s.length-(k+1),om,[(6, .int .i64 ((k+1:Nat):Int)),(5, .int .i64 s.length),(0, .str s)],Z9,Wj,rfl,k+1,rfl,om, ?_,rfl,rfl⟩;rw[hp,v8 a,b];rfl
  ·have e1:(!HE s[k])=true:=by simpa using b
   by_cases d:k=0
   ·have j:((k:Int)==0)=true:=by simp[d]
    repeat' first|refine .s1 ?_|(refine .q ?_ ?_<;>intro O)|refine bL rfl rfl rfl rfl rfl Wh ?_|refine aH rfl g (aB _) ?_|refine aH rfl f (aB _) ?_|fail
    refine Fin.rb ?_;unfold lO;rw[hp,v8 a];subst d;simp[b]
   ·have j:((k:Int)==0)=false:=by simp[d]
    have h:(k==0)=false:=by simp[d]
    by_cases e:pD s[k]=true
    ·have l:(!pD s[k])=false:=by rw[e];rfl
     repeat' first|refine .s1 ?_|(refine .q ?_ ?_<;>intro O)|refine bL rfl rfl rfl rfl rfl Wh ?_|refine aH rfl g (aB _) ?_|refine aH rfl f (aB _) ?_|fail
     refine⟨s.length-(k+1),om,[(6, .int .i64 ((k+1:Nat):Int)),(5, .int .i64 s.length),(0, .str s)],Z9,Wj,rfl,k+1,rfl,om, ?_,rfl,rfl⟩;rw[hp,v8 a,h,e];simp
    ·have l:(!pD s[k])=true:=by simpa using e
     repeat' first|refine .s1 ?_|(refine .q ?_ ?_<;>intro O)|refine bL rfl rfl rfl rfl rfl Wh ?_|refine aH rfl g (aB _) ?_|refine aH rfl f (aB _) ?_|fail
     refine Fin.rb ?_;unfold lO;rw[hp,v8 a,h];simp[b,e]
 ·have i:decide ((k:Int)<(s.length:Int))=false:=by simp;omega
  refine .go ?_;refine Fin.rb ?_;unfold lO;rw[hp,drop_eq_nil_of_le om,nmC];cases s<;>simp
def eE:AG->Nat
 |[]=>0
 |c::s=>if pD c=true then eE s+1 else 0
def iV:∀s:AG,eE s<=s.length
 |[]=>le_refl _
 |c::s=>by
  have:=iV s
  unfold eE;split<;>simp<;>omega
theorem DI{s:AG}(h:k<s.length):eE (s.drop k)=if pD s[k]=true then eE (s.drop (k+1))+1 else 0:=by rw[drop_eq_getElem_cons h,eE]
def Cp(s:AG)(hs:s.length<=9223372036854775806):AN prog 345 [.str s] (.int .i64 (eE s)):=by
 refine AI.plain rfl rfl (aS [2] func345 ?_);refine .go ?_;change AB _ _ _ _ _ _ _;refine AB.loop (λn a H=>∃k:Nat,n=s.length-k/\k<=s.length/\eE s=k+eE (s.drop k)/\H=⟨[],[]⟩/\a=[(3, .int .i64 k),(0, .str s)])
  (s0:=[(3, .int .i64 (0:Nat)),(0, .str s)]) Z9 ⟨0,rfl,zero_le _,Wb,rfl,rfl⟩ ?_
 rintro n a H ⟨k,rfl,hk,hp,rfl,rfl⟩;by_cases b:k<s.length
 ·have e:decide ((k:Int)<(s.length:Int))=true:=by simp[b]
  have x1:=f9 b;have d:=Q7 s[k];by_cases c:pD s[k]=true
  ·repeat' first|refine .s1 ?_|(refine .q ?_ ?_<;>intro O)|refine bL rfl rfl rfl rfl rfl Wh ?_|refine aH rfl d (aB _) ?_|fail
   refine⟨s.length-(k+1),om,[(3, .int .i64 ((k+1:Nat):Int)),(0, .str s)],Z9,Wj,rfl,k+1,rfl,om, ?_,rfl,rfl⟩;rw[hp,DI b,if_pos c];omega
  ·have f:pD s[k]=false:=by simpa using c
   repeat' first|refine .s1 ?_|(refine .q ?_ ?_<;>intro O)|refine bL rfl rfl rfl rfl rfl Wh ?_|refine aH rfl d (aB _) ?_|fail
   refine aP rfl (AC.eq (congrArg (AV.int .i64) ?_));rw[hp,DI b,if_neg c];simp
 ·have e:decide ((k:Int)<(s.length:Int))=false:=by simp;omega
  refine .go ?_;refine aP rfl (AC.eq (congrArg (AV.int .i64) ?_));rw[hp,drop_eq_nil_of_le om,eE];simp
def pfx(p s:AG):Bool:=decide (p.length<=s.length)&&(s.take p.length==p)
def Q8(s p:AG):AN prog 349 [.str s, .str p] (.bool (pfx p s)):=by
 refine AI.plain rfl rfl (aS [4] func349 ?_);by_cases a:p.length<=s.length
 ·have b:decide ((s.length:Int)≥(p.length:Int))=true:=by simp;omega
  repeat' first|refine .s1 ?_|(refine .q ?_ ?_<;>intro O)|refine cS 0 p.length rfl rfl rfl rfl rfl rfl rfl om om rfl ?_|fail
  refine Fin.rb ?_;simp[pfx,a]
 ·have b:decide ((s.length:Int)≥(p.length:Int))=false:=by simp;omega
  refine .go ?_;refine Fin.rb ?_;simp[pfx,a]
def H3(s p:AG):AN prog 344 [.str s, .str p] (.bool (pfx p s)):=by
 have h:=Q8 s p;refine AI.plain rfl rfl (aS [4] func344 ?_);repeat' first|refine .s1 ?_|(refine .q ?_ ?_<;>intro O)|refine aH rfl h (aB _) ?_|fail
 exact bY
def iB(s:AG)(n:Nat):Nat:=if eE (s.drop n)=0 then 0 else if s[n]? =some 48 then n+1 else n+eE (s.drop n)
def bR(s:AG):Nat:=if pfx [45] s=true then iB s 1 else iB s 0
def FZ{s:AG}{n:Nat}(h:n<=s.length):iB s n<=s.length:=by have:=iV (s.drop n);rw[length_drop]at this;unfold iB;grind
def VU{c:UInt8}{s:AG}(h:pfx [c] s=true):1<=s.length:=by grind[pfx]
def Px(s:AG):bR s<=s.length:=by
 unfold bR;split
 ·exact FZ (VU Wh)
 ·exact FZ (zero_le _)
def VV(s:AG)(hs:s.length<=9223372036854775806):AN prog 343 [.str s] (.int .i64 (bR s)):=by
 refine AI.plain rfl rfl (aS [2] func343 ?_);have hp:=H3 s [45];by_cases c:pfx [45] s=true
 ·have hn:1<=s.length:=VU c;have d:=Cp (s.drop 1) WD;have f:=iV (s.drop 1);rw[length_drop]at f;by_cases a:eE (s.drop 1)=0
  ·have g:((eE (s.drop 1):Int)==0)=true:=by rw[a];rfl
   repeat' first|refine .s1 ?_|(refine .q ?_ ?_<;>intro O)|refine aH rfl hp (aB _) ?_|refine cS 1 s.length rfl rfl rfl rfl rfl rfl rfl om om Wv ?_|refine aH rfl d (aB _) ?_|fail
   refine aP rfl (AC.eq (congrArg (AV.int .i64) ?_));rw[bR,if_pos c,iB,if_pos a];rfl
  ·have g:((eE (s.drop 1):Int)==0)=false:=beq_eq_false_iff_ne.2 om;have e:1<s.length:=om
   have x1:=f9 e;by_cases b:s[1]=48
   ·have i:((s[1].toNat:Int)==48)=true:=by rw[b];rfl
    repeat' first|refine .s1 ?_|(refine .q ?_ ?_<;>intro O)|refine aH rfl hp (aB _) ?_|refine cS 1 s.length rfl rfl rfl rfl rfl rfl rfl om om Wv ?_|refine aH rfl d (aB _) ?_|refine bL (j:=1) rfl rfl rfl rfl rfl Wh ?_|fail
    refine aP rfl (AC.eq (congrArg (AV.int .i64) ?_));rw[bR,if_pos c,iB,if_neg a,x1,if_pos (congrArg some b)];rfl
   ·have i:((s[1].toNat:Int)==48)=false:=by
     have:s[1].toNat≠48:=λh=>b (UInt8.toNat_inj.1 (h.trans rfl))
     simp;omega
    repeat' first|refine .s1 ?_|(refine .q ?_ ?_<;>intro O)|refine aH rfl hp (aB _) ?_|refine cS 1 s.length rfl rfl rfl rfl rfl rfl rfl om om Wv ?_|refine aH rfl d (aB _) ?_|refine bL (j:=1) rfl rfl rfl rfl rfl Wh ?_|fail
    refine aP rfl (AC.eq (congrArg (AV.int .i64) ?_));rw[bR,if_pos c,iB,if_neg a,x1,if_neg (λh=>b (Option.some.inj h))];omega
 ·have k:pfx [45] s=false:=by simpa using c
  have d:=Cp s hs;have f:=iV s;by_cases a:eE s=0
  ·have g:((eE s:Int)==0)=true:=by simp[a]
   repeat' first|refine .s1 ?_|(refine .q ?_ ?_<;>intro O)|refine aH rfl hp (aB _) ?_|refine cS 0 s.length rfl rfl rfl rfl rfl rfl rfl om om XZ ?_|refine aH rfl d (aB _) ?_|fail
   refine aP rfl (AC.eq (congrArg (AV.int .i64) ?_));rw[bR,if_neg c,iB,List.drop_zero,if_pos a];rfl
  ·have g:((eE s:Int)==0)=false:=by simp[a]
   have e:0<s.length:=om
   have x1:=f9 e;by_cases b:s[0]=48
   ·have i:((s[0].toNat:Int)==48)=true:=by rw[b];rfl
    repeat' first|refine .s1 ?_|(refine .q ?_ ?_<;>intro O)|refine aH rfl hp (aB _) ?_|refine cS 0 s.length rfl rfl rfl rfl rfl rfl rfl om om XZ ?_|refine aH rfl d (aB _) ?_|refine bL (j:=0) rfl rfl rfl rfl rfl Wh ?_|fail
    refine aP rfl (AC.eq (congrArg (AV.int .i64) ?_));rw[bR,if_neg c,iB,List.drop_zero,if_neg a,x1,if_pos (congrArg some b)];rfl
   ·have i:((s[0].toNat:Int)==48)=false:=by
     have:s[0].toNat≠48:=λh=>b (UInt8.toNat_inj.1 (h.trans rfl))
     simp;omega
    repeat' first|refine .s1 ?_|(refine .q ?_ ?_<;>intro O)|refine aH rfl hp (aB _) ?_|refine cS 0 s.length rfl rfl rfl rfl rfl rfl rfl om om XZ ?_|refine aH rfl d (aB _) ?_|refine bL (j:=0) rfl rfl rfl rfl rfl Wh ?_|fail
    refine aP rfl (AC.eq (congrArg (AV.int .i64) ?_));rw[bR,if_neg c,iB,List.drop_zero,if_neg a,x1,if_neg (λh=>b (Option.some.inj h))];omega
def F0(s:AG)(n:Nat):Nat:=if eE (s.drop n)=0 then 0 else n+eE (s.drop n)
def q9(s:AG):Nat:=
 if (s.getD 0 0).toNat=101\/(s.getD 0 0).toNat=69 then
  (if 1<s.length/\((s.getD 1 0).toNat=43\/(s.getD 1 0).toNat=45) then F0 s 2 else F0 s 1)
 else 0
def KA{s:AG}{n:Nat}(h:n<=s.length):F0 s n<=s.length:=by have:=iV (s.drop n);rw[length_drop]at this;unfold F0;grind
def Jm(s:AG):q9 s<=s.length:=by
 unfold q9;split
 ·have h:1<=s.length:=by
   cases s with
   |nil=>simp_all
   |cons c s=>simp
  split
  ·exact KA om
  ·exact KA h
 ·omega
theorem Jn{s:AG}(h:k<s.length):s.getD k 0=s[k]:=WZ
def Mr(s:AG)(hs:s.length<=9223372036854775806):AN prog 346 [.str s] (.int .i64 (q9 s)):=by
 refine AI.plain rfl rfl (aS [2] func346 ?_);by_cases h0:s.length=0
 ·obtain rfl:=List.eq_nil_of_length_eq_zero h0;refine .go ?_;refine aP rfl (AC.eq (congrArg (AV.int .i64) ?_));rfl
 ·have a:0<s.length:=om
  have i:(s==[])=false:=by cases s<;>simp_all
  have x0:=f9 a;have b:=Cp (s.drop 1) WD;have c:=iV (s.drop 1);rw[length_drop]at c;have g0:=Jn a;by_cases f:1<s.length
  ·have x1:=f9 f;have h:=Jn f;have g:decide ((s.length:Int)>1)=true:=by simp;omega
   have e:=Cp (s.drop 2) WD;have d:=iV (s.drop 2);rw[length_drop]at d;repeat' first|refine .s1 ?_|(refine .q ?_ ?_<;>intro O)|refine bL (j:=0) rfl rfl rfl rfl rfl Wh ?_|refine bL (j:=1) rfl rfl rfl rfl rfl Wh ?_|refine cS 1 s.length rfl rfl rfl rfl rfl rfl rfl om om Wv ?_|refine cS 2 s.length rfl rfl rfl rfl rfl rfl rfl om om Wv ?_|refine aH rfl b (aB _) ?_|refine aH rfl e (aB _) ?_|fail
   all_goals
    refine aP rfl (AC.eq (congrArg (AV.int .i64) ?_));unfold q9 F0;rw[g0,h];simp[-List.drop_one]at *;(repeat' split)<;>omega
  ·have g:decide ((s.length:Int)>1)=false:=by simp;omega
   repeat' first|refine .s1 ?_|(refine .q ?_ ?_<;>intro O)|refine bL (j:=0) rfl rfl rfl rfl rfl Wh ?_|refine cS 1 s.length rfl rfl rfl rfl rfl rfl rfl om om Wv ?_|refine aH rfl b (aB _) ?_|fail
   all_goals
    refine aP rfl (AC.eq (congrArg (AV.int .i64) ?_));unfold q9 F0;rw[g0];simp[-List.drop_one]at *;(repeat' split)<;>omega
end Go.Proofs.YtimbiifcnhgcoaaGreatDoor
namespace Go.Av
open Go
section
variable [AL]
variable {P:Program} {A:Array Oper} {G:Bool} {K:AX->AE->St->Prop} {C:List Oper} {I:List Aj} {s:AE} {H:St} {R:TypeId} {D:String} {S:Array Edge}
def ET{c:Array (String×TypeId)}(h:P.underlying T=some (.interface c)){u:Value}(a:(u = .nilIface/\b=true)\/(∃t v,u = .iface t v)/\b=false)(n:Nat)(w:World):(Op.equalIn (n+1) T u .nilIface).run P w = .ok b w:=Xx
def Ot[Lay P]{d:Tmp}{v:AV}{m:TI}(hT:ty? P T=some m)(hk:m.kind = .iface)(hx:ev? s x=some v)(c:(match v with | .nili=>some true | .iface _ _=>some false|_=>none)=some b)(k:AD P A G K C (.pure::I) ((d, .bool b)::s) H):
  AD P A G K (⟨some d, .binOp .eql T x (.const .nilIface) U,R,D,S,none⟩::C) I s H:=
 bU rfl (eY λg w a o=>by
  have i:=op1 hx We o;obtain⟨j,f,z0,t1,t2,l,p,_⟩:=(eH hT).ex;have n:∃ms,f = .interface ms:=Y7
  obtain⟨ms,rfl⟩:=n;have h:a.eval (.const .nilIface) = .nilIface:=rfl;refine⟨.bool b, ?_,rfl⟩;cases v with
  |nili=>cases c;have e:a.eval x = .nilIface:=i;have h3:(Op.equal T .nilIface .nilIface).run P w = .ok true w:=ET t2 (.inl ⟨rfl,rfl⟩) 9999 w;simp[execOp,e,h,eqGuard,Go.binOp,h3,Result.andThen]
  |iface t v=>cases c;obtain⟨u,e,_⟩:=i;have h3:(Op.equal T (.iface t u) .nilIface).run P w = .ok false w:=ET t2 (.inr ⟨⟨t,u,rfl⟩,rfl⟩) 9999 w;simp[execOp,e,h,eqGuard,Go.binOp,h3,Result.andThen]
  |_=>cases c) k
end
end Go.Av
namespace Go.Proofs.YtimbiifcnhgcoaaGreatDoor
open Go Go.Av Go.Proofs.Tryz
def cL{t1 t2:Nat}{s:AE}{a b r:AV}(d:lk? s t1=some a)(e:lk? s t2=some b)(hw:AC (.tup [a,b]) r):∃c,Av.ret (gG s [t1,t2]) = .ret c/\AC c r:=
 ⟨_,rfl,Wt⟩
def Lb(s:AG):Int:=match Lib.parseIntB 64 s with
 | .ok v=>v
 | .range=>Lib.intSat 64 s
 |_=>0
def C6(s:AG):Bool:=match Lib.parseIntB 64 s with
 | .ok _=>true
 |_=>false
def wN(s:AG):AV:=match Lib.parseIntB 64 s with
 | .ok _ => .nili
 |_ => .iface 399 .undef
def Uk(s:AG)(hs:s.length<=281474976710656):AN prog 342 [.str s, .int .i64 10, .int .i64 64] (.tup [.int .i64 (Lb s),wN s]):=by
 refine y5 ⟨_,func342,rfl,rfl⟩ rfl (λim w J l b m=> ?_);obtain⟨v,C,e,q,u,i,z,f,y,a,e3,h,hr⟩:=m;have r:v = .string ⟨s.toArray⟩:=q;have j:u = .int .i64 10:=f;have k:y = .int .i64 64:=h;have n:a=[]:=hr;obtain rfl:J = #[.string ⟨s.toArray⟩, .int .i64 10, .int .i64 64]:=by cases J;simp_all
 have o:(⟨s.toArray⟩:ByteArray).size=s.length:=XT
 have c:=Aq.a6 (g:=⟨[],[],im⟩) b (p:=(5, .iface 408 .undef)) (.tail _ (.tail _ (.tail _ (.head _))));have d:=Aq.a6 (g:=⟨[],[],im⟩) b (p:=(6, .iface 408 .undef)) (.tail _ (.tail _ (.tail _ (.tail _ (.head _)))));obtain⟨u5,c⟩:=Kr c;obtain⟨u6,d⟩:=Kr d;cases hp:Lib.parseIntB 64 s with
 |ok x=>
  refine(mH ⟨s.toArray⟩ om x hp w).mono ?_;rintro e w' ⟨rfl,hb⟩;refine⟨⟨_,rfl, ?_⟩, ?_⟩
  ·unfold Lb wN;rw[hp];exact⟨_,rfl,_,_,rfl,rfl,_,_,rfl,rfl,rfl⟩
  ·rcases hb with rfl|⟨t,rfl⟩
   ·exact Go.RowKit.Below.refl _ _
   ·exact Lib.bytesWorld_below _ _ _
 |range=>refine(fB ⟨s.toArray⟩ om hp _ w d (.inr ⟨_,_,rfl⟩)).mono ?_;rintro e w' ⟨N,rfl,_,_,hb⟩;refine⟨⟨_,rfl, ?_⟩,hb⟩;unfold Lb wN;rw[hp];exact⟨_,rfl,_,_,rfl,rfl,_,_,rfl,⟨_,rfl,trivial⟩,rfl⟩
 |_=>refine(lY ⟨s.toArray⟩ om (by simp only[hp]) _ w c (.inr ⟨_,_,rfl⟩)).mono ?_;rintro e w' ⟨N,rfl,_,_,hb⟩;refine⟨⟨_,rfl, ?_⟩,hb⟩;unfold Lb wN;rw[hp];exact⟨_,rfl,_,_,rfl,rfl,_,_,rfl,⟨_,rfl,trivial⟩,rfl⟩
attribute [local irreducible] AB AD AN AI Av.AU AZ
def C7(s:AG)(n:Nat):Nat×Int:=if pfx [46] (s.drop n)=true then (if eE (s.drop (n+1))=0 then (n,3) else (n+1+eE (s.drop (n+1)),4)) else (n,3)
def zN(s:AG):Nat×Int:=if bR s=0 then (0,0) else if q9 (s.drop (C7 s (bR s)).1)=0 then C7 s (bR s) else ((C7 s (bR s)).1+q9 (s.drop (C7 s (bR s)).1),4)
def Ul(s:AG)(hs:s.length<=4611686018427387904):AN prog 341 [.str s] (.tup [.int .i64 (zN s).1, .int .i64 (zN s).2]):=by
 refine AI.plain rfl rfl (aS [2,3] func341 ?_);have hw:=VV s om;have n:=Px s;unfold zN;by_cases g:bR s=0
 ·have l:((bR s:Int)==0)=true:=by rw[g];rfl
  repeat' first|refine .s1 ?_|(refine .q ?_ ?_<;>intro O)|refine aH rfl hw (aB _) ?_|fail
  refine cL rfl rfl (AC.eq ?_);rw[if_pos g];rfl
 ·have l:((bR s:Int)==0)=false:=beq_eq_false_iff_ne.2 om;have hp:=H3 (s.drop (bR s)) [46];rw[if_neg g];unfold C7;by_cases e:pfx [46] (s.drop (bR s))=true
  ·rw[if_pos e];have i:=VU e;rw[length_drop]at i;have f:=Cp (s.drop (bR s+1)) WD;have h:=iV (s.drop (bR s+1));rw[length_drop]at h;by_cases j:eE (s.drop (bR s+1))=0
   ·rw[if_pos j];have m:decide ((eE (s.drop (bR s+1)):Int)>0)=false:=by simp only[decide_eq_false_iff_not];omega
    have c:=Mr (s.drop (bR s)) WD;have a:=Jm (s.drop (bR s));rw[length_drop]at a;by_cases b:q9 (s.drop (bR s))=0
    ·have d:decide ((q9 (s.drop (bR s)):Int)>0)=false:=by simp only[decide_eq_false_iff_not];omega
     repeat' first|refine .s1 ?_|(refine .q ?_ ?_<;>intro O)|refine aH rfl hw (aB _) ?_|refine cS (bR s) s.length rfl rfl rfl rfl rfl rfl rfl om om Wv ?_|refine cS (bR s+1) s.length rfl rfl rfl rfl rfl rfl rfl om om Wv ?_|refine aH rfl hp (aB _) ?_|refine aH rfl f (aB _) ?_|refine aH rfl c (aB _) ?_|fail
     refine cL rfl rfl (AC.eq ?_);rw[if_pos b]
    ·have d:decide ((q9 (s.drop (bR s)):Int)>0)=true:=by simp only[decide_eq_true_eq];omega
     repeat' first|refine .s1 ?_|(refine .q ?_ ?_<;>intro O)|refine aH rfl hw (aB _) ?_|refine cS (bR s) s.length rfl rfl rfl rfl rfl rfl rfl om om Wv ?_|refine cS (bR s+1) s.length rfl rfl rfl rfl rfl rfl rfl om om Wv ?_|refine aH rfl hp (aB _) ?_|refine aH rfl f (aB _) ?_|refine aH rfl c (aB _) ?_|fail
     refine cL rfl rfl (AC.eq ?_);rw[if_neg b];rfl
   ·rw[if_neg j];have m:decide ((eE (s.drop (bR s+1)):Int)>0)=true:=by simp only[decide_eq_true_eq];omega
    have c:=Mr (s.drop (bR s+1+eE (s.drop (bR s+1)))) WD;have a:=Jm (s.drop (bR s+1+eE (s.drop (bR s+1))));rw[length_drop]at a;by_cases b:q9 (s.drop (bR s+1+eE (s.drop (bR s+1))))=0
    ·have d:decide ((q9 (s.drop (bR s+1+eE (s.drop (bR s+1)))):Int)>0)=false:=by simp only[decide_eq_false_iff_not];omega
     repeat' first|refine .s1 ?_|(refine .q ?_ ?_<;>intro O)|refine aH rfl hw (aB _) ?_|refine cS (bR s) s.length rfl rfl rfl rfl rfl rfl rfl om om Wv ?_|refine cS (bR s+1) s.length rfl rfl rfl rfl rfl rfl rfl om om Wv ?_|refine cS (bR s+1+eE (s.drop (bR s+1))) s.length rfl rfl rfl rfl rfl rfl rfl om om Wv ?_|refine aH rfl hp (aB _) ?_|refine aH rfl f (aB _) ?_|refine aH rfl c (aB _) ?_|fail
     refine cL rfl rfl (AC.eq ?_);rw[if_pos b];rfl
    ·have d:decide ((q9 (s.drop (bR s+1+eE (s.drop (bR s+1)))):Int)>0)=true:=by simp only[decide_eq_true_eq];omega
     repeat' first|refine .s1 ?_|(refine .q ?_ ?_<;>intro O)|refine aH rfl hw (aB _) ?_|refine cS (bR s) s.length rfl rfl rfl rfl rfl rfl rfl om om Wv ?_|refine cS (bR s+1) s.length rfl rfl rfl rfl rfl rfl rfl om om Wv ?_|refine cS (bR s+1+eE (s.drop (bR s+1))) s.length rfl rfl rfl rfl rfl rfl rfl om om Wv ?_|refine aH rfl hp (aB _) ?_|refine aH rfl f (aB _) ?_|refine aH rfl c (aB _) ?_|fail
     refine cL rfl rfl (AC.eq ?_);rw[if_neg b];rfl
  ·rw[if_neg e];have k:pfx [46] (s.drop (bR s))=false:=by simpa using e
   have c:=Mr (s.drop (bR s)) WD;have a:=Jm (s.drop (bR s));rw[length_drop]at a;by_cases b:q9 (s.drop (bR s))=0
   ·have d:decide ((q9 (s.drop (bR s)):Int)>0)=false:=by simp only[decide_eq_false_iff_not];omega
    repeat' first|refine .s1 ?_|(refine .q ?_ ?_<;>intro O)|refine aH rfl hw (aB _) ?_|refine cS (bR s) s.length rfl rfl rfl rfl rfl rfl rfl om om Wv ?_|refine aH rfl hp (aB _) ?_|refine aH rfl c (aB _) ?_|fail
    refine cL rfl rfl (AC.eq ?_);rw[if_pos b]
   ·have d:decide ((q9 (s.drop (bR s)):Int)>0)=true:=by simp only[decide_eq_true_eq];omega
    repeat' first|refine .s1 ?_|(refine .q ?_ ?_<;>intro O)|refine aH rfl hw (aB _) ?_|refine cS (bR s) s.length rfl rfl rfl rfl rfl rfl rfl om om Wv ?_|refine aH rfl hp (aB _) ?_|refine aH rfl c (aB _) ?_|fail
    refine cL rfl rfl (AC.eq ?_);rw[if_neg b];rfl
def m5(s:AG):Int:=if (zN s).1=s.length then (zN s).2 else 0
def Ou(s:AG)(hs:s.length<=4611686018427387904):AN prog 336 [.str s] (.int .i64 (m5 s)):=by
 refine AI.plain rfl rfl (aS [2] func336 ?_);have hn:=Ul s hs;unfold m5;by_cases c:(zN s).1=s.length
 ·have e:(((zN s).1:Int) != (s.length:Int))=false:=by rw[c];simp
  repeat' first|refine .s1 ?_|(refine .q ?_ ?_<;>intro O)|refine aH rfl hn (aB _) ?_|fail
  refine aP rfl (AC.eq ?_);simp_all
 ·have e:(((zN s).1:Int) != (s.length:Int))=true:=by simp;omega
  repeat' first|refine .s1 ?_|(refine .q ?_ ?_<;>intro O)|refine aH rfl hn (aB _) ?_|fail
  refine aP rfl (AC.eq ?_);simp_all
def aA0(s:AG)(hs:s.length<=281474976710656):AN prog 337 [.str s] (.tup [.int .i64 (Lb s), .bool (C6 s&&(m5 s==3))]):=by
 refine AI.plain rfl rfl (aS [2,3] func337 ?_);have hn:=Ou s om;have hp:=Uk s hs;by_cases c:C6 s=true
 ·have e:wN s = .nili:=by unfold C6 at c;unfold wN;grind
  rw[e]at hp;repeat' first|refine .s1 ?_|(refine .q ?_ ?_<;>intro O)|refine aH rfl hp (aB _) ?_|refine aH rfl hn (aB _) ?_|refine Ot rfl rfl rfl rfl ?_|fail
  refine cL rfl rfl (AC.eq ?_);rw[c];rfl
 ·have e:wN s = .iface 399 .undef:=by unfold C6 at c;unfold wN;grind
  have a:C6 s=false:=WA
  rw[e]at hp;repeat' first|refine .s1 ?_|(refine .q ?_ ?_<;>intro O)|refine aH rfl hp (aB _) ?_|refine aH rfl hn (aB _) ?_|refine Ot rfl rfl rfl rfl ?_|fail
  refine cL rfl rfl (AC.eq ?_);rw[a];rfl
def R5(s:AG):Bool:=m5 s==4||m5 s==3 && !(C6 s&&(m5 s==3))
def aED(s:AG)(hs:s.length<=281474976710656):AN prog 317 [.str s] (.bool (R5 s)):=by
 refine AI.plain rfl rfl (aS [2] func317 ?_);have hn:=Ou s om;have hw:=aA0 s hs;unfold R5;repeat' first|refine .s1 ?_|(refine .q ?_ ?_<;>intro O)|refine aH rfl hn (aB _) ?_|refine aH rfl hw (aB _) ?_|fail
 all_goals
  refine Fin.rb ?_;simp_all
def Um(s:AG):Bool:=s==[116,114,117,101]||s==[102,97,108,115,101]||s==[110,117,108,108]
def PR(s:AG):AN prog 318 [.str s] (.bool (Um s)):=by
 refine AI.plain rfl rfl (aS [2] func318 ?_);unfold Um;repeat' first|refine .s1 ?_|(refine .q ?_ ?_<;>intro O)|fail
 all_goals
  refine Fin.rb ?_;simp_all
def fO(s:AG):Bool:=Lib.validD s
def Lc(s:AG)(hs:s.length<=9223372036854775807):AN prog 297 [.str s] (.bool (fO s)):=by
 refine y5 ⟨_,func297,rfl,rfl⟩ rfl (λim w J d a f=> ?_);obtain⟨v,C,e,h,hr⟩:=f;have c:v = .string ⟨s.toArray⟩:=h;have b:C=[]:=hr;subst c;subst b;obtain rfl:J = #[.string ⟨s.toArray⟩]:=by cases J;simp_all
 have h3:=Aq.a6 (g:=⟨[],[],im⟩) a (p:=(0, .agg (Lib.firstTab.map (AV.int .u8)))) (.head _);have h4:=Aq.a6 (g:=⟨[],[],im⟩) a (p:=(1, .agg (y6.map (AV.int .u8)))) (.tail _ (.head _));refine(sE ⟨s.toArray⟩ w (by simpa [ByteArray.size]using hs) (Pj h3 h4)).mono ?_;rintro e w' ⟨rfl,hb⟩;exact⟨⟨_,rfl,rfl⟩,hb⟩
def Vt(s:AG)(hs:s.length<=9223372036854775807):AN prog 249 [.str s] (.bool (fO s)):=by
 have a:=Lc s hs;refine AI.plain rfl rfl (aS [2] func249 ?_)
 repeat' first|refine .s1 ?_|(refine .q ?_ ?_<;>intro O)|refine aH rfl a (aB _) ?_|fail
 exact bY
def R6(k n:Int)(s:AG)(xs ys:List AV)(t1 t2:Tk)(hx:(AV.slice xs t1).K=true)(a:(AV.slice ys t2).K=true):
  AN prog 296 [.agg [.int .i64 k, .int .i64 n, .str s, .slice xs t1, .slice ys t2]] (.bool (n==0&&s==[]&&decide (xs.length=0)&&decide (ys.length=0))):=by
 refine AI.plain rfl (by simp only[aA,AV.K]at hx a ⊢; rw[hx,a];rfl) (aS [2] func296 ?_)
 repeat' first|refine cW rfl rfl ?_|refine .s1 ?_|(refine .q ?_ ?_<;>intro O)|fail
 all_goals
  refine Fin.rb ?_;rw[Bool.eq_iff_iff];simp_all
def lE(v:AH):Bool:=decide (v.l.length=0)&&decide (v.m.length=0)&&
 (if v.kind=0 then v.n==0&&v.s==[] else if v.kind=1 then (v.n==0||v.n==1)&&v.s==[] else if v.kind=2 then v.s==[] else if v.kind=3 then v.n==0&&R5 v.s
  else if v.kind=4 then v.n==0&&fO v.s else if v.kind=5 then v.n==0&&lO v.s && !Um v.s else if v.kind=8 then v.n==0&&lO v.s else false)
def Un(v:AH)(f:v.s.length<=68719476736):AN prog 295 [v.C] (.bool (lE v)):=by
 refine AI.plain rfl Wz (aS [2] func295 ?_);have hb:=R6 v.kind 0 [] v.lv v.mv .no .no Z6 Z5;have h3:=aED v.s om;have h4:=Vt v.s om;have d:=Vi v.s om;have e:=PR v.s;rw[v.bb,v.bn]at hb;have h0:((0:Int)==0&&([]:AG)==[]&&decide (v.l.length=0)&&decide (v.m.length=0))=(decide (v.l.length=0)&&decide (v.m.length=0)):=Wb
 rw[h0]at hb;unfold lE;by_cases b:(decide (v.l.length=0)&&decide (v.m.length=0))=true
 ·have c:(!(decide (v.l.length=0)&&decide (v.m.length=0)))=false:=by rw[b];rfl
  rw[b]
  repeat' first|refine cW rfl rfl ?_|refine .s1 ?_|(refine .q ?_ ?_<;>intro O)|refine aH rfl hb (aB _) ?_|refine aH rfl h3 (aB _) ?_|refine aH rfl h4 (aB _) ?_|refine aH rfl d (aB _) ?_|refine aH rfl e (aB _) ?_|fail
  all_goals
   refine Fin.rb ?_;simp_all
 ·have a:(decide (v.l.length=0)&&decide (v.m.length=0))=false:=by simpa using b
  have c:(!(decide (v.l.length=0)&&decide (v.m.length=0)))=true:=WQ
  rw[a]
  repeat' first|refine cW rfl rfl ?_|refine .s1 ?_|(refine .q ?_ ?_<;>intro O)|refine aH rfl hb (aB _) ?_|fail
  refine Fin.rb ?_;rfl
def Ov:∀ {l:List AH} {x:AH},lW l->x∈l->x.ok
 |v::l,x,h,hx=>by
  rw[lW]at h
  cases hx with
  |head=>exact h.1
  |tail _ hx=>exact Ov h.2 hx
def Ow:∀ {l:List AF} {x:AF},lX l->x∈l->x.v.ok
 | .mk _ v::l,x,h,hx=>by
  rw[lX]at h
  cases hx with
  |head=>exact h.1
  |tail _ hx=>exact Ow h.2 hx
def Uo{v:AH}(h:v.ok){x:AH}(hx:x∈v.l):x.ok:=by cases v;rw[AH.ok]at h;exact Ov h.2.2.1 hx
def Up{v:AH}(h:v.ok){x:AF}(hx:x∈v.m):x.v.ok:=by cases v;rw[AH.ok]at h;exact Ow h.2.2.2 hx
def Ox{v:AH}(h:v.ok) : -9223372036854775808<=v.n/\v.n<=9223372036854775807:=by cases v;rw[AH.ok]at h;have:=h.2.1;unfold Lit.wf IntKind.min IntKind.max at this;rw[Bool.and_eq_true,decide_eq_true_eq,decide_eq_true_eq]at this;exact⟨this.1,this.2⟩
mutual
def rC:AH->Prop
 | .mk k n s l m=>s.length<=68719476736/\l.length<=68719476736/\m.length<=68719476736/\JE l/\PS m
def JE:List AH->Prop
 |[]=>True
 |v::l=>rC v/\JE l
def PS:List AF->Prop
 |[]=>True
 | .mk n v::l=>n.length<=68719476736/\rC v/\PS l
end
theorem GH:∀ {l:List AH},JE l↔∀x∈l,rC x
 |[]=>by simp[JE]
 |v::l=>by rw[JE,GH];simp
theorem Ld:∀ {l:List AF},PS l↔∀x∈l,x.name.length<=68719476736/\rC x.v
 |[]=>by simp[PS]
 | .mk n v::l=>by rw[PS,Ld];simp only[List.forall_mem_cons,and_assoc];rfl
def lP{v:AH}:rC v↔v.s.length<=68719476736/\v.l.length<=68719476736/\v.m.length<=68719476736/\(∀x∈v.l,rC x)/\∀x∈v.m,x.name.length<=68719476736/\rC x.v:=by cases v;rw[rC,GH,Ld];rfl
def aA1:∀(n:Nat) (v:AH),v.size<=n->n<=68719476736->rC v:=λn=>by
 induction n using Nat.strongRecOn with
 |ind n E=>
  intro v d hn
  have e:=v.ay
  have a:=v.bt
  have b:=v.b3
  refine lP.2 ⟨om,om,om,λx hx=> ?_,λx hx=> ?_⟩
  ·obtain⟨k,hk,rfl⟩:=List.getElem_of_mem hx
   have:=dK hk
   exact E _ om _ (le_refl _) om
  ·obtain⟨k,hk,rfl⟩:=List.getElem_of_mem hx
   have h3:=dQ hk
   have h4:=aN (size:=AF.size) (getElem_mem hk)
   have c:v.m[k].size=v.m[k].name.length+2+v.m[k].v.size:=rfl
   exact⟨om,E _ om _ (le_refl _) om⟩
def DS{v:AH}(h:v.size<=68719476736):rC v:=aA1 _ v (le_refl _) h
def Ad(v:AH):Prop:=rC v/\v.ok
theorem Ad.l{v:AH}(h:Ad v){x:AH}(hx:x∈v.l):Ad x:=⟨(lP.1 h.1).2.2.2.1 x hx,Uo h.2 hx⟩
theorem Ad.m{v:AH}(h:Ad v){x:AF}(hx:x∈v.m):x.name.length<=68719476736/\Ad x.v:=⟨((lP.1 h.1).2.2.2.2 x hx).1,((lP.1 h.1).2.2.2.2 x hx).2,Up h.2 hx⟩
section
variable (g:AG->Bool)
mutual
def gW:AH->Bool
 | .mk k n s l m=>if k=6 then yK l&&(n==0&&s==[]&&decide (m.length=0)) else if k=7 then C8 m&&(n==0&&s==[]&&decide (l.length=0)) else lE (.mk k n s l m)
def yK:List AH->Bool
 |[]=>true
 |v::l=>gW v&&yK l
def C8:List AF->Bool
 |[]=>true
 | .mk n v::l=>(g n&&gW v)&&C8 l
end
theorem lF(v:AH):gW g v=if v.kind=6 then yK g v.l&&(v.n==0&&v.s==[]&&decide (v.m.length=0)) else if v.kind=7 then C8 g v.m&&(v.n==0&&v.s==[]&&decide (v.l.length=0)) else lE v:=by cases v;rw[gW];rfl
theorem DT{l:List AH}(h:k<l.length):yK g (l.drop k)=(gW g l[k]&&yK g (l.drop (k+1))):=by rw[drop_eq_getElem_cons h,yK]
theorem x4{l:List AF}(h:k<l.length):C8 g (l.drop k)=((g l[k].name&&gW g l[k].v)&&C8 g (l.drop (k+1))):=by rw[drop_eq_getElem_cons h];cases l[k];rw[C8];rfl
end
def Lf{v:AH}(h:k<v.m.length):v.m[k].name.length<=v.size:=Xh
def aC5(F:FuncId)(g:AG->Bool)(hF:∀s:AG,s.length<=68719476736->AN prog F [.str s] (.bool (g s))):∀N:Nat,∀v:AH,v.size<=N->rC v->AN prog 248 [v.C, .fn (.func F) [] []] (.bool (gW g v))
 |0,v,j,_=>absurd j X3
 |N+1,v,j,ht=>by
  have E:=aC5 F g hF N
  have ht:=lP.1 ht
  refine AI.plain rfl (by simp[aA,AV.K,AH.K]) (aS [4] func248 ?_)
  rw[lF]
  by_cases d:v.kind=6
  ·have o:(v.kind==6)=true:=by rw[d];rfl
   rw[if_pos d]
   have hb:=R6 v.kind v.n v.s [] v.mv .nil .no rfl Z5
   rw[v.bn]at hb
   repeat' first|refine cW rfl rfl ?_|refine .s1 ?_|(refine .q ?_ ?_<;>intro O)|fail
   change AB _ _ _ _ _ _ _
   refine AB.loop (λn s H=>∃k:Nat,n=v.l.length-k/\k<=v.l.length/\yK g v.l=yK g (v.l.drop k)/\H=⟨[Ob.cells [.int .i64 v.kind, .int .i64 v.n, .str v.s, .slice [] .nil, .slice v.mv .no]],[]⟩/\
    s=[(22, .int .i64 k),(21, .int .i64 v.lv.length),(20, .slice v.lv .no),(6, .bool true),(5, .ptr 0 0),(1, .fn (.func F) [] [])])
    (s0:=[(22, .int .i64 (0:Nat)),(21, .int .i64 v.lv.length),(20, .slice v.lv .no),(6, .bool true),(5, .ptr 0 0),(1, .fn (.func F) [] [])])
    Z9 ⟨0,rfl,zero_le _,rfl,rfl,rfl⟩ ?_
   rintro n s H ⟨k,rfl,hk,hp,rfl,rfl⟩
   by_cases a:k<v.l.length
   ·have i:decide ((k:Int)<(v.lv.length:Int))=true:=by rw[v.bb];simp[a]
    have x1:=lD a
    have O:=E v.l[k] (by have:=dK a;omega) (ht.2.2.2.1 _ (getElem_mem a))
    by_cases c:gW g v.l[k]=true
    ·have e1:(!gW g v.l[k])=false:=by rw[c];rfl
     repeat' first|refine .s1 ?_|(refine .q ?_ ?_<;>intro O)|refine aH rfl O (aB _) ?_|fail
     refine⟨v.l.length-(k+1),om,[(22, .int .i64 ((k+1:Nat):Int)),(21, .int .i64 v.lv.length),(20, .slice v.lv .no),(6, .bool true),(5, .ptr 0 0),(1, .fn (.func F) [] [])],
      ⟨rfl,rfl,rfl,congrArg AV.bool c,rfl,rfl,trivial⟩,by simp[aM,AV.ab,aE,mG],by simp[aQ,aL,Ob.ab,AV.ab,aE,mI],k+1,rfl,om,by rw[hp,DT g a,c];rfl,rfl,rfl⟩
    ·have b:gW g v.l[k]=false:=by simpa using c
     have e1:(!gW g v.l[k])=true:=W4
     repeat' first|refine .s1 ?_|(refine .q ?_ ?_<;>intro O)|refine aH rfl O (aB _) ?_|fail
     refine Fin.rb ?_
     rw[hp,DT g a,b];rfl
   ·have i:decide ((k:Int)<(v.lv.length:Int))=false:=by rw[v.bb];simp;omega
    repeat' first|refine .s1 ?_|(refine .q ?_ ?_<;>intro O)|refine aH rfl hb (aB _) ?_|fail
    refine Fin.rb ?_
    rw[hp,drop_eq_nil_of_le om,yK]
    simp
  ·have o:(v.kind==6)=false:=by simpa using d
   rw[if_neg d]
   by_cases e:v.kind=7
   ·have p:(v.kind==7)=true:=by rw[e];rfl
    rw[if_pos e]
    have hb:=R6 v.kind v.n v.s v.lv [] .no .nil Z6 rfl
    rw[v.bb]at hb
    repeat' first|refine cW rfl rfl ?_|refine .s1 ?_|(refine .q ?_ ?_<;>intro O)|fail
    change AB _ _ _ _ _ _ _
    refine AB.loop (λn s H=>∃k:Nat,n=v.m.length-k/\k<=v.m.length/\C8 g v.m=C8 g (v.m.drop k)/\H=⟨[Ob.cells [.int .i64 v.kind, .int .i64 v.n, .str v.s, .slice v.lv .no, .slice [] .nil]],[]⟩/\
     s=[(38, .int .i64 k),(37, .int .i64 v.mv.length),(36, .slice v.mv .no),(6, .bool true),(5, .ptr 0 0),(1, .fn (.func F) [] [])])
     (s0:=[(38, .int .i64 (0:Nat)),(37, .int .i64 v.mv.length),(36, .slice v.mv .no),(6, .bool true),(5, .ptr 0 0),(1, .fn (.func F) [] [])])
     Z9 ⟨0,rfl,zero_le _,rfl,rfl,rfl⟩ ?_
    rintro n s H ⟨k,rfl,hk,hp,rfl,rfl⟩
    by_cases a:k<v.m.length
    ·have i:decide ((k:Int)<(v.mv.length:Int))=true:=by rw[v.bn];simp[a]
     have x1:=rX a
     have O:=E v.m[k].v (by have:=dQ a;omega) (ht.2.2.2.2 _ (getElem_mem a)).2
     have hf:=hF v.m[k].name (ht.2.2.2.2 _ (getElem_mem a)).1
     by_cases f:g v.m[k].name=true
     ·by_cases c:gW g v.m[k].v=true
      ·have e1:(!gW g v.m[k].v)=false:=by rw[c];rfl
       repeat' first|refine .s1 ?_|(refine .q ?_ ?_<;>intro O)|refine aH rfl O (aB _) ?_|refine Cg rfl rfl hf (aB _) ?_|fail
       refine⟨v.m.length-(k+1),om,[(38, .int .i64 ((k+1:Nat):Int)),(37, .int .i64 v.mv.length),(36, .slice v.mv .no),(6, .bool true),(5, .ptr 0 0),(1, .fn (.func F) [] [])],
        ⟨rfl,rfl,rfl,congrArg AV.bool c,rfl,rfl,trivial⟩,by simp[aM,AV.ab,aE,mI],by simp[aQ,aL,Ob.ab,AV.ab,aE,mG],k+1,rfl,om,by rw[hp,x4 g a,f,c];rfl,rfl,rfl⟩
      ·have b:gW g v.m[k].v=false:=by simpa using c
       have e1:(!gW g v.m[k].v)=true:=W4
       repeat' first|refine .s1 ?_|(refine .q ?_ ?_<;>intro O)|refine aH rfl O (aB _) ?_|refine Cg rfl rfl hf (aB _) ?_|fail
       refine Fin.rb ?_
       rw[hp,x4 g a,b,f];rfl
     ·have h:g v.m[k].name=false:=by simpa using f
      repeat' first|refine .s1 ?_|(refine .q ?_ ?_<;>intro O)|refine aH rfl O (aB _) ?_|refine Cg rfl rfl hf (aB _) ?_|fail
      refine Fin.rb ?_
      rw[hp,x4 g a,h];rfl
    ·have i:decide ((k:Int)<(v.mv.length:Int))=false:=by rw[v.bn];simp;omega
     repeat' first|refine .s1 ?_|(refine .q ?_ ?_<;>intro O)|refine aH rfl hb (aB _) ?_|fail
     refine Fin.rb ?_
     rw[hp,drop_eq_nil_of_le om,C8]
     simp
   ·have p:(v.kind==7)=false:=by simpa using e
    rw[if_neg e]
    have hs:=Un v ht.1
    repeat' first|refine cW rfl rfl ?_|refine .s1 ?_|(refine .q ?_ ?_<;>intro O)|refine aH rfl hs (aB _) ?_|fail
    exact bY
def R7(v:AH)(a:rC v):AN prog 184 [v.C] (.bool (gW fO v)):=by
 have h:=aC5 249 fO (λs hs=>Vt s om) v.size v (le_refl _) a;refine AI.plain rfl Wz (aS [2] func184 ?_);repeat' first|refine cW rfl rfl ?_|refine .s1 ?_|(refine .q ?_ ?_<;>intro O)|refine aH rfl h (aB _) ?_|fail
 exact bY
def aC6(v:AH)(a:v.size<=68719476736):AN prog 184 [v.C] (.bool (gW fO v)):=R7 v (DS a)
def bP:AH := .mk 0 0 [] [] []
def zO(n:Int):AH := .mk 2 n [] [] []
def iF(s:AG):AH := .mk 4 0 s [] []
def bT(name:AG):List AF->AH×Bool
 |[]=>(bP,false)
 |m::l=>if m.name==name then (m.v,true) else bT name l
theorem pP{name:AG}{l:List AF}(h:k<l.length):bT name (l.drop k)=if l[k].name==name then (l[k].v,true) else bT name (l.drop (k+1)):=by rw[drop_eq_getElem_cons h,bT]
theorem sA(k n:Int)(s:AG)(m:List AF):(AH.mk k n s [] m).lv=[]:=by rw[AH.lv,tJ]
theorem wO(k n:Int)(s:AG)(l:List AH):(AH.mk k n s l []).mv=[]:=by rw[AH.mv,tK]
def cF{k n:Int}{s:AG}{t1 t2:Tk}:AC (.agg [.int .i64 k, .int .i64 n, .str s, .slice [] t1, .slice [] t2]) (AH.mk k n s [] []).C:=by unfold AH.C;rw[sA,wO];exact AC.agg (AA.cons (aG _) (AA.cons (aG _) (AA.cons (aG _) (AA.cons (AC.no (aB _)) (AA.cons (AC.no (aB _)) (aB _))))))
def fF:List AV:=[.int .i64 0, .int .i64 0, .str [], .slice [] .nil, .slice [] .nil]
theorem get(name:AG)(l:List AF)(c:l.length<=9223372036854775807):AN prog 60 [.str name, .slice (l.map AF.C) .no] (.tup [(bT name l).1.C, .bool (bT name l).2]):=by
 refine AI.plain W3 W6 (cE [.cell 4 43, .tmp 5] func60 ?_);refine .go ?_;change AB _ _ _ _ _ _ _;refine AB.loop (λn s H=>∃k:Nat,n=l.length-k/\k<=l.length/\bT name l=bT name (l.drop k)/\H=⟨[.cells fF],[]⟩/\
  s=[(10, .int .i64 k),(9, .int .i64 l.length),(8, .slice (l.map AF.C) .no),(0, .str name),(4, .ptr 0 0)])
  (s0:=[(10, .int .i64 (0:Nat)),(9, .int .i64 l.length),(8, .slice (l.map AF.C) .no),(0, .str name),(4, .ptr 0 0)])
  Z9 ⟨0,rfl,zero_le _,rfl,rfl,rfl⟩ ?_
 rintro n s H ⟨k,rfl,hk,hp,rfl,rfl⟩;by_cases a:k<l.length
 ·have b:decide ((k:Int)<(l.length:Int))=true:=by simp[a]
  have x1:=aV (f:=AF.C) a
  repeat' first|refine .s1 ?_|(refine .q ?_ ?_<;>intro O)|fail
  ·refine aI rfl (AC.eq ?_);rw[hp,pP a,if_pos O];rfl
  ·refine⟨l.length-(k+1),om,[(10, .int .i64 ((k+1:Nat):Int)),(9, .int .i64 l.length),(8, .slice (l.map AF.C) .no),(0, .str name),(4, .ptr 0 0)],
    Z9,by simp[aM,AV.ab,dG],rfl,k+1,rfl,om,Yn,rfl,rfl⟩
 ·have b:decide ((k:Int)<(l.length:Int))=false:=by simp;omega
  refine .go ?_;refine aI rfl ?_;rw[hp,drop_eq_nil_of_le om,bT];exact AC.tup (AA.cons cF (aB _))
def aEE(n:Int):AN prog 255 [.int .i64 n] (zO n).C:=by refine AI.plain (AH.K _) rfl (cE [.cell 2 43] func255 ?_);refine .go ?_;exact aI rfl cF
def MV(n:AG):AN prog 58 [.str n] (iF n).C:=by refine AI.plain (AH.K _) rfl (cE [.cell 2 43] func58 ?_);refine .go ?_;exact aI rfl cF
def cG(t:Ac):Bool:=lO t.name&&(decide (0<=t.an)&&(decide (t.an<=4)&&(decide (0<=t.az)&&decide (t.az<2 ^ (t.an.toNat+1)))))
def isT(t:Ac):Bool:=cG t&&decide (t.az % 2=1)
def cB(t:Ac):Ac:=⟨t.name,t.an-1,t.az/2⟩
def R8:Ac:=⟨[],0,0⟩
def fU(t:Ac):Ac×Bool:=if cG t=true/\t.an≠0 then (cB t,true) else (R8,false)
def Lg(t:Ac):Ac:=if cG t=true then ⟨t.name,t.an,if t.az % 2=1 then t.az-1 else t.az⟩ else t
theorem fR{t:Ac}:cG t=true↔lO t.name=true/\0<=t.an/\t.an<=4/\0<=t.az/\t.az<2 ^ (t.an.toNat+1):=by simp[cG]
theorem wP{t:Ac}(h:cG t=true)(d:t.an≠0):cG (cB t)=true:=by
 rw[fR]at *;obtain⟨a,b,h3,h4,c⟩:=h;have e:t.an.toNat=(t.an-1).toNat+1:=om
 refine⟨a, ?_, ?_, ?_, ?_⟩
 ·show 0<=t.an-1;omega
 ·show t.an-1<=4;omega
 ·show 0<=t.az/2;omega
 ·show t.az/2<2 ^ ((t.an-1).toNat+1);grind
def C9:AG:=[73,110,116]
def dC:AG:=[83,116,114,105,110,103]
def g7:AG:=[66,111,111,108,101,97,110]
def sID:AG:=[73,68]
def lG(n:AG):Bool:=n==C9||n==dC||n==g7||n==sID
def yQ:Ah:=⟨0,[],[],[],[],[]⟩
def dW(s:AJ)(name:AG):Option Ah:=if lG name=true then some ⟨0,name,[],[],[],[]⟩ else s.ai.find? (λd=>d.name==name)
def bN(s:AJ)(name:AG):Ah×Bool:=match dW s name with
 |some d=>(d,true)
 |none=>(yQ,false)
def eP(s:AJ)(name:AG)(ks:List Int):Bool:=(bN s name).2&&decide ((bN s name).1.kind∈ks)
def dT(s:AJ)(name:AG):Bool:=eP s name [0,4]
def g8(s:AJ)(name:AG):Bool:=eP s name [1,2,3]
abbrev Uq:AH:=bP
def Iv:AP:=⟨[],R8,false,Uq⟩
def sB(l:List AP)(name:AG):Option AP:=l.find? (λp=>p.name==name)
def qC(l:List AP)(name:AG):AP×Bool:=match sB l name with
 |some p=>(p,true)
 |none=>(Iv,false)
def cK(l:List AG)(x:AG):List AG:=if x∈l then l else l++[x]
end Go.Proofs.YtimbiifcnhgcoaaGreatDoor
namespace Go.Av
open Go
variable [AL]
def bJ{P:Program}[Lay P]{A:Array Oper}{G:Bool}{K:AX->AE->St->Prop}{C:List Oper}{I:List Aj}{s:AE}{H:St}{R:TypeId}{D:String}{S:Array Edge}{d:Tmp}{T:TypeId}{x:AV}{T': List Tok}{c:TI}(hT:ty? P T=some c)(a3:c.size=z)(hx:c.zero=x)
  (hk:dN H.T=some k) (v:kP H.T (.aa [x]) some=some T')
  (kk:AD P A G K C (.tk::I) ((d, .ao k z 1 0 0)::s) ⟨H.B,T'⟩):AD P A G K (⟨some d, .alloc T,R,D,S,none⟩::C) I s H:=
 bU (t := .tk) (Y:=⟨H.B,T'⟩) rfl ⟨rfl,λB=>by
  intro g w a next Q hI ho hn
  subst a3;subst hx
  obtain⟨zv,hz,a4,i,a5⟩:=nP hT w
  have h1:Aa g w c.zero zv:=by rw[<-a4];exact kM g w zv
  have y:H.T++[.aa [c.zero]]=T':= Option.some.inj (eQ _ _ _ _ v)
  have n:H.T.length=k:=dI hk
  have f:g.tk[k]? =none:=by
   have a2:g.tk.length=H.T.length:=hI.lenT
   rw[<-n, <-a2];simp
  have l:∀b o,(⟨some ⟨w.heap.size,0,none⟩,1,1,c.size,0⟩:A8).a1 b o->b=w.heap.size/\o<zv.cells.size:=by
   rintro b o ⟨p,hp,rfl,e1,q⟩
   cases hp
   refine⟨rfl, ?_⟩
   rw[i]
   simpa using q
  obtain⟨g', e1,q,e3,_⟩:=Ks (k:=k) (r':= ⟨some ⟨w.heap.size,0,none⟩,1,1,c.size,0⟩) (t' := .aa [c.zero]) (J:=λ_ _=>False) hI (w':= dO w (.cells zv.cells T)) (.inr ⟨n.symm,rfl⟩)
   XJ rfl rfl rfl (λb hb _=>cQ w _ hb) (λb o hb _=>(cI (cQ w _ hb)).1) (λb o hb=>(cI (cQ w _ hb)).2) (λ_ _ h=>h.elim)
   (λb o ho=>by
    obtain⟨rfl,h2⟩:=l b o ho
    exact⟨⟨zv.cells[o],(dV w zv.cells T o).trans (Array.getElem?_eq_getElem h2)⟩,j5 w zv.cells T o, .inl (le_refl _)⟩)
   (λr hr=>by rw[f]at hr;cases hr)
   (λg' a1=>⟨rfl,rfl,le_refl _,[zv],⟨zv,[],rfl,Aa.mono a1 _ _ h1,rfl⟩,(λe=>by cases e),(λV hV=>by rw[List.mem_singleton.1 hV];exact i),(λp hp=>by
    cases hp
    refine⟨.inl rfl,fG (λV hV=>by rw[List.mem_singleton.1 hV];exact i) λj u hj=> ?_⟩
    have m:zv.cells.toList[j]? =some u:=by simpa [flat]using hj
    refine⟨trivial, ?_,a5 u (List.mem_of_getElem? m)⟩
    show (dO w (.cells zv.cells T)).cell? ⟨w.heap.size,0+j,none⟩=some u
    rw[Nat.zero_add]
    exact(dV w zv.cells T j).trans (by simpa using m))⟩)
  unfold Oper.wp
  simp only[execOp,Instr.alloc,hz,newVar,newRow,newObj,Sem.run_bind,Result.andThen,Sem.run]
  exact hn _ _ _ e1 (y▸q) ⟨w.heap.size,0,rfl,om,_,e3,rfl,le_refl _,λ_=>⟨rfl,_,rfl,rfl,rfl,Wb⟩⟩⟩ kk
def bE{H:St}{n j:Nat}{y:AV}{T': List Tok}(hT:H.T[k]? =some (.aa xs))(hn:xs.length=n)(hy:xs[j]? =some y)(e:jX k (.len (n+1)) H.T some=some T'):
  AK H (.ao k z n j 0) ⟨H.B,T'⟩ (.ac y):=λg w v d hr=>by
 obtain⟨kl,f⟩:=d7 _ _ _ _ _ e
 obtain⟨r0,Vs,p,a,hp,a0,rfl,hj⟩:=Jl d hr hT hn
 obtain⟨V,t,m⟩:=a.a6.get hy
 have h:k<H.T.length:=(List.getElem?_eq_some_iff.1 hT).1
 obtain⟨g', e1,q,e3,r⟩:=Ks (r':= ⟨none,n+1,0,z,n+1⟩) (t' := .len (n+1)) (J:=λb o=>r0.a1 b o) d (w':= w) (.inl ⟨h,rfl⟩) (le_refl _) rfl rfl rfl (λ_ _ _=>rfl) (λ_ _ _ _=>rfl) (λ_ _ _=>rfl)
  (λb o c=>⟨(λ⟨p,hp,_⟩=>Xz),d.bd a.hr c, .inr ⟨r0,a.hr,c⟩⟩)
  (λb o ⟨p,hp,_⟩=>Xz) (λr1 l=>by
   have:r1=r0:=Option.some.inj (l.symm.trans a.hr)
   subst this
   exact .inr ⟨by rw[a.n,hn];show n<n+1;omega,by rw[a.sz]⟩) (λg' _=>⟨rfl,rfl⟩)
 refine⟨g', e1, ?_,p.block,p.off+j * z+0,V,rfl,λi x X=> ?_,Aa.mono e1.le _ _ m⟩
 ·rw[<-Option.some.inj f];exact q
 ·obtain⟨m1,m2⟩:=(a.mem p hp).2 j V t
  obtain⟨_,m3,m4⟩:=m2 i x X
  have u:i<z:=by have:=(Array.getElem?_eq_some_iff.1 X).1;omega
  have hb:(j+1) * z<=r0.cap * z:=Nat.mul_le_mul_right _ (by have:=a.cap;have:=a.len;omega)
  rw[Nat.succ_mul]at hb
  have hz:=a.a1 hp (o:=j * z+i) om
  rw[<-Nat.add_assoc]at hz
  rw[Nat.add_zero]
  exact⟨r _ _ hz,m3,m4⟩
end Go.Av
namespace Go.Proofs.YtimbiifcnhgcoaaGreatDoor
open Go Go.Av Go.Proofs.Tryz
def bG{α:Type}(p:α->Bool):List α->Nat->Int
 |[],_ => -1
 |x::l,k=>if p x then (k:Int) else bG p l (k+1)
theorem cR{p:α->Bool}{l:List α}(h:k<l.length):bG p (l.drop k) k=if p l[k] then (k:Int) else bG p (l.drop (k+1)) (k+1):=by rw[drop_eq_getElem_cons h,bG]
def eN{α:Type}(p:α->Bool):∀(l:List α) (k:Nat),(bG p l k = -1/\l.find? p=none)\/∃(j:Nat) (h:j<l.length),bG p l k=((k+j:Nat):Int)/\l.find? p=some l[j]
 |[],k => .inl ⟨rfl,rfl⟩
 |x::l,k=>by
  by_cases e:p x=true
  ·exact .inr ⟨0,Wb,by simp[bG,e],Z1⟩
  ·rcases eN p l (k+1) with⟨a,b⟩|⟨j,h,a,b⟩
   ·exact .inl ⟨by simp[bG,e,a],by simp[List.find?, e,b]⟩
   ·exact .inr ⟨j+1,Wu,by simp[bG,e,a];omega,by simp[List.find?, e,b]⟩
theorem Fh(p:α->Bool)(l:List α):decide (0<=bG p l 0)=l.any p:=by
 rcases eN p l 0 with⟨b,a⟩|⟨j,hj,b,a⟩
 ·rw[b];rw[List.find?_eq_none]at a;have:l.any p=false:=by rw[Bool.eq_false_iff];intro h;obtain⟨x,hx,hp⟩:=any_eq_true.1 h;exact a x hx hp
  rw[this];decide
 ·rw[b];have hp:=List.find?_some a;have:l.any p=true:=any_eq_true.2 ⟨_,getElem_mem hj,hp⟩;rw[this];exact decide_eq_true om
def Ur(l:List AG)(x:AG):decide (0<=bG (λy=>x==y) l 0)=decide (x∈l):=by
 rw[Fh,Bool.eq_iff_iff,any_eq_true,decide_eq_true_eq];constructor
 ·rintro⟨y,a,e⟩;rw[beq_iff_eq]at e;subst e;exact a
 ·intro h;exact⟨x,h,Wb⟩
def R9(l:List Int)(x:Int):decide (0<=bG (λy=>x==y) l 0)=decide (x∈l):=by
 rw[Fh,Bool.eq_iff_iff,any_eq_true,decide_eq_true_eq];constructor
 ·rintro⟨y,a,e⟩;rw[beq_iff_eq]at e;subst e;exact a
 ·intro h;exact⟨x,h,Wb⟩
attribute [local irreducible] AB AD AN AI Av.AU AZ
def PT(l:List AG)(x:AG)(d:l.length<=9223372036854775807):AN prog 99 [.slice (l.map (AV.str)) .no,AV.str x] (.int .i64 (bG (λy=>x==y) l 0)):=by
 refine AI.plain rfl WY (aS [4] func99 ?_);refine .go ?_;refine bK l.length (λk=>[(8, .int .i64 k),(7, .int .i64 l.length),(0, .slice (l.map (AV.str)) .no),(1,AV.str x)]) (λ_=>⟨[],[]⟩) (λk=>bG (λy=>x==y) l 0=bG (λy=>x==y) (l.drop k) k) Z9 rfl rfl λk hk hp=> ?_
 by_cases a:k<l.length
 ·have c:decide ((k:Int)<(l.length:Int))=true:=by simp[a]
  have x1:=aV (f:=AV.str) a;have b:=cR (p:=λy=>x==y) a
  repeat' first|refine .s1 ?_|(refine .q ?_ ?_<;>intro O)|fail
  ·refine aP rfl (AC.eq ?_);rw[hp,b,if_pos O]
  ·exact⟨a,Z9,Wj,rfl,rfl,Yz⟩
 ·have c:decide ((k:Int)<(l.length:Int))=false:=by simp;omega
  refine .go ?_;refine aP rfl (AC.eq ?_);rw[hp,drop_eq_nil_of_le om,bG]
def gN(l:List AG)(x:AG)(a:l.length<=9223372036854775807):AN prog 45 [.slice (l.map (AV.str)) .no,AV.str x] (.bool (decide (x∈l))):=by have h:=PT l x a;refine AI.plain rfl WY (aS [4] func45 ?_);refine .go ?_;exact aP rfl (AC.eq (congrArg AV.bool (Ur l x)))
def PU(l:List Int)(x:Int)(d:l.length<=9223372036854775807):AN prog 243 [.slice (l.map (AV.int .i64)) .no,AV.int .i64 x] (.int .i64 (bG (λy=>x==y) l 0)):=by
 refine AI.plain rfl (by simp[AV.K,aA,qM]) (aS [4] func243 ?_);refine .go ?_;refine bK l.length (λk=>[(8, .int .i64 k),(7, .int .i64 l.length),(0, .slice (l.map (AV.int .i64)) .no),(1,AV.int .i64 x)]) (λ_=>⟨[],[]⟩) (λk=>bG (λy=>x==y) l 0=bG (λy=>x==y) (l.drop k) k) Z9 rfl rfl λk hk hp=> ?_
 by_cases a:k<l.length
 ·have c:decide ((k:Int)<(l.length:Int))=true:=by simp[a]
  have x1:=aV (f:=AV.int .i64) a;have b:=cR (p:=λy=>x==y) a
  repeat' first|refine .s1 ?_|(refine .q ?_ ?_<;>intro O)|fail
  ·refine aP rfl (AC.eq ?_);rw[hp,b,if_pos O]
  ·exact⟨a,Z9,Wj,rfl,rfl,Yz⟩
 ·have c:decide ((k:Int)<(l.length:Int))=false:=by simp;omega
  refine .go ?_;refine aP rfl (AC.eq ?_);rw[hp,drop_eq_nil_of_le om,bG]
def JF(l:List Int)(x:Int)(a:l.length<=9223372036854775807):AN prog 173 [.slice (l.map (AV.int .i64)) .no,AV.int .i64 x] (.bool (decide (x∈l))):=by have h:=PU l x a;refine AI.plain rfl (by simp[AV.K,aA,qM]) (aS [4] func173 ?_);refine .go ?_;exact aP rfl (AC.eq (congrArg AV.bool (R9 l x)))
def MW(l:List AP)(f:FuncId)(cs:List AV)(p:AP->Bool)(g:l.length<=9223372036854775807)(b:aA cs=true)(hf:∀x∈l,AN prog f (AP.C x::cs) (.bool (p x))):
  AN prog 293 [.slice (l.map AP.C) .no, .fn (.func f) [] cs] (.int .i64 (bG p l 0)):=by
 refine AI.plain rfl (by simp[AV.K,aA,bZ,b]) (aS [4] func293 ?_);refine .go ?_;refine bK l.length (λk=>[(8, .int .i64 k),(7, .int .i64 l.length),(0, .slice (l.map AP.C) .no),(1, .fn (.func f) [] cs)]) (λ_=>⟨[],[]⟩) (λk=>bG p l 0=bG p (l.drop k) k) Z9 rfl rfl λk hk hp=> ?_
 by_cases a:k<l.length
 ·have d:decide ((k:Int)<(l.length:Int))=true:=by simp[a]
  have x1:=aV (f:=AP.C) a;have e:=hf l[k] (getElem_mem a);have c:=cR (p:=p) a
  repeat' first|refine .s1 ?_|(refine .q ?_ ?_<;>intro O)|fail
  ·refine aP rfl (AC.eq ?_);rw[hp,c,if_pos O]
  ·exact⟨a,Z9,Xk,rfl,rfl,by rw[hp,c,if_neg WG]⟩
 ·have d:decide ((k:Int)<(l.length:Int))=false:=by simp;omega
  refine .go ?_;refine aP rfl (AC.eq ?_);rw[hp,drop_eq_nil_of_le om,bG]
def MX(l:List Ag)(f:FuncId)(cs:List AV)(p:Ag->Bool)(g:l.length<=9223372036854775807)(b:aA cs=true)(hf:∀x∈l,AN prog f (Ag.C x::cs) (.bool (p x))):
  AN prog 176 [.slice (l.map Ag.C) .no, .fn (.func f) [] cs] (.int .i64 (bG p l 0)):=by
 refine AI.plain rfl (by simp[AV.K,aA,jS,b]) (aS [4] func176 ?_);refine .go ?_;refine bK l.length (λk=>[(8, .int .i64 k),(7, .int .i64 l.length),(0, .slice (l.map Ag.C) .no),(1, .fn (.func f) [] cs)]) (λ_=>⟨[],[]⟩) (λk=>bG p l 0=bG p (l.drop k) k) Z9 rfl rfl λk hk hp=> ?_
 by_cases a:k<l.length
 ·have d:decide ((k:Int)<(l.length:Int))=true:=by simp[a]
  have x1:=aV (f:=Ag.C) a;have e:=hf l[k] (getElem_mem a);have c:=cR (p:=p) a
  repeat' first|refine .s1 ?_|(refine .q ?_ ?_<;>intro O)|fail
  ·refine aP rfl (AC.eq ?_);rw[hp,c,if_pos O]
  ·exact⟨a,Z9,Xk,rfl,rfl,by rw[hp,c,if_neg WG]⟩
 ·have d:decide ((k:Int)<(l.length:Int))=false:=by simp;omega
  refine .go ?_;refine aP rfl (AC.eq ?_);rw[hp,drop_eq_nil_of_le om,bG]
end Go.Proofs.YtimbiifcnhgcoaaGreatDoor
namespace Go.Av
open Go
section
variable [AL]
variable {P:Program} {A:Array Oper} {G:Bool} {K:AX->AE->St->Prop} {C:List Oper} {I:List Aj} {s:AE} {H:St} {d:Tmp} {R:TypeId} {D:String} {S:Array Edge}
theorem x5{m:Nat}(h:m<9223372036854775808):(BitVec.ofInt 64 (m:Int)).toNat=m:=by rw[BitVec.ofInt_natCast,BitVec.toNat_ofNat,Nat.mod_eq_of_lt om]
theorem Da{m:Nat}(h:m<9223372036854775808):IntKind.i64.wrap (m:Int)=(m:Int):=IntWalk.i64_in _ om
def DU{b:Int}{m n r:Nat}(hx:ev? s x=some (.int .i64 a))(j:ev? s y=some (.int .i64 b))(ha:a=(m:Int))(hb:b=(n:Int))(f:m<9223372036854775808)(hn:n<9223372036854775808)(hr:m &&& n=r)
  (k:AD P A G K C (.pure::I) ((d, .int .i64 (r:Int))::s) H):AD P A G K (⟨some d, .binOp .and T x y U,R,D,S,none⟩::C) I s H:=
 fC hx j (λg w u v h i=>by
  cases (show u=_ from h);cases (show v=_ from i)
  subst ha;subst hb
  have c:m &&& n<=m:=Nat.and_le_left
  have e:IntKind.i64.wrap (((BitVec.ofInt IntKind.i64.bits (m:Int)) &&& (BitVec.ofInt IntKind.i64.bits (n:Int))).toNat:Int)=(r:Int):=by
   rw[BitVec.toNat_and,show (BitVec.ofInt IntKind.i64.bits (m:Int)).toNat=m from x5 f,show (BitVec.ofInt IntKind.i64.bits (n:Int)).toNat=n from x5 hn,hr,Da om]
  exact⟨.int .i64 (r:Int),YO,rfl⟩) k
def aC7{m n:Nat}(a:m<9223372036854775808)(hn:n<9223372036854775808):m ||| n<9223372036854775808:=Nat.or_lt_two_pow (n:=63) a hn
def aC8{b:Int}{m n r:Nat}(hx:ev? s x=some (.int .i64 a))(j:ev? s y=some (.int .i64 b))(ha:a=(m:Int))(hb:b=(n:Int))(c:m<9223372036854775808)(hn:n<9223372036854775808)(hr:m ||| n=r)
  (k:AD P A G K C (.pure::I) ((d, .int .i64 (r:Int))::s) H):AD P A G K (⟨some d, .binOp .or T x y U,R,D,S,none⟩::C) I s H:=
 fC hx j (λg w u v h i=>by
  cases (show u=_ from h);cases (show v=_ from i)
  subst ha;subst hb
  have f:=aC7 c hn
  have e:IntKind.i64.wrap (((BitVec.ofInt IntKind.i64.bits (m:Int)) ||| (BitVec.ofInt IntKind.i64.bits (n:Int))).toNat:Int)=(r:Int):=by
   rw[BitVec.toNat_or,show (BitVec.ofInt IntKind.i64.bits (m:Int)).toNat=m from x5 c,show (BitVec.ofInt IntKind.i64.bits (n:Int)).toNat=n from x5 hn,hr,Da om]
  exact⟨.int .i64 (r:Int),YO,rfl⟩) k
def Sa{b r:Int}(hx:ev? s x=some (.int .i64 a))(f:ev? s y=some (.int .i64 b))(hr:IntKind.i64.wrap (((BitVec.ofInt IntKind.i64.bits a) &&& ~~~(BitVec.ofInt IntKind.i64.bits b)).toNat:Int)=r)
  (h:AD P A G K C (.pure::I) ((d, .int .i64 r)::s) H):AD P A G K (⟨some d, .binOp .andNot T x y U,R,D,S,none⟩::C) I s H:=
 fC hx f (λg w u v c e=>by
  cases (show u=_ from c);cases (show v=_ from e)
  exact⟨.int .i64 r,by simp only[eqGuard,Go.binOp,Op.intBits];rw[hr];rfl,rfl⟩) h
def aC9(m:Nat):m &&& 31=m % 32:=Nat.and_two_pow_sub_one_eq_mod m 5
def aCa(m:Nat):m &&& 15=m % 16:=Nat.and_two_pow_sub_one_eq_mod m 4
def aEF(m:Nat):m &&& 7=m % 8:=Nat.and_two_pow_sub_one_eq_mod m 3
def aCb(m:Nat):m &&& 63=m % 64:=Nat.and_two_pow_sub_one_eq_mod m 6
def aEG(m n:Nat)(h:n<64):m * 64 ||| n=m * 64+n:=by have:=Nat.two_pow_add_eq_or_of_lt (i:=6) (b:=n) h m;rw[Nat.mul_comm]at this;exact this.symm
def wQ:Nat->Code->Code
 |0,c=>c
 |n+1, .seq _ y=>wQ n y
 |_+1,c=>c
def uC(f:Func):Code:=f.body.getD .skip
end
end Go.Av
