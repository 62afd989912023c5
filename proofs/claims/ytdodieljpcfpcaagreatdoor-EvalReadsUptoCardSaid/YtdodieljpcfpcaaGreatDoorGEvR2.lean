/- Joined texts. -/
import Derived.Test.YtdodieljpcfpcaaGreatDoorTable
import Derived.Test.YtdodieljpcfpcaaGreatDoorShelf
set_option maxRecDepth 100000
set_option maxHeartbeats 16000000
set_option linter.all false
open List (any_eq_true drop_eq_getElem_cons drop_eq_nil_of_le drop_zero getElem_mem length_drop)
open Nat (le_refl zero_le)
open Go Go.Av Go.Proofs.YtdodieljpcfpcaaGreatDoor Go.Proofs.Tryz
variable{s':AE}{r:AV}{b a:Bool}{x:Code}{fn:Func}{f:FuncId}{k:Int}{xs:List AV}{t z:Nat}{Q:Prop}{σ':St}{T U:TypeId}
namespace Go.Proofs.YtdodieljpcfpcaaGreatDoor
open Go Go.Av Go.Proofs.Tryz
abbrev AF:=List UInt8
theorem bF{α:Type}{f:α->AV}(h:∀x,(f x).K=true):∀l:List α,aB (l.map f)=true
 |[]=>rfl
 |x::l=>by simp[aB,h x,bF h l]
def dO(n:Nat):AP prog n 9 false (λx:AF => .str x) (λx=>x.length+1) (λ_=>True):=AP.string underlying9
def nR(n:Nat):AP prog n 3 false (λx:Int => .int .i64 x) (λ_=>1) (λx=>(Lit.int .i64 x).wf=true):=AP.int underlying3
mutual
inductive AH where
 |mk (kind n:Int) (s:AF) (l:List AH) (m:List AG)
inductive AG where
 |mk (name:AF) (v:AH)
end
def AH.kind:AH->Int
 | .mk k _ _ _ _=>k
def AH.n:AH->Int
 | .mk _ n _ _ _=>n
def AH.s:AH->AF
 | .mk _ _ s _ _=>s
def AH.l:AH->List AH
 | .mk _ _ _ l _=>l
def AH.m:AH->List AG
 | .mk _ _ _ _ m=>m
def AG.name:AG->AF
 | .mk n _=>n
def AG.v:AG->AH
 | .mk _ v=>v
mutual
def AH.lv:AH->List AV
 | .mk _ _ _ l _=>tJ l
def AH.mv:AH->List AV
 | .mk _ _ _ _ m=>tK m
def tJ:List AH->List AV
 |[]=>[]
 |v::l => .agg [.int .i64 v.kind, .int .i64 v.n, .str v.s, .slice (AH.lv v) .no, .slice (AH.mv v) .no]::tJ l
def tK:List AG->List AV
 |[]=>[]
 | .mk name v::l => .agg [.str name, .int .i64 v.kind, .int .i64 v.n, .str v.s, .slice (AH.lv v) .no, .slice (AH.mv v) .no]::tK l
end
def AH.C(v:AH):AV := .agg [.int .i64 v.kind, .int .i64 v.n, .str v.s, .slice v.lv .no, .slice v.mv .no]
def AG.C(m:AG):AV := .agg [.str m.name, .int .i64 m.v.kind, .int .i64 m.v.n, .str m.v.s, .slice m.v.lv .no, .slice m.v.mv .no]
theorem Dx:∀l:List AH,tJ l=l.map AH.C
 |[]=>by simp[tJ]
 |v::l=>by rw[tJ,Dx l];rfl
theorem Dy:∀l:List AG,tK l=l.map AG.C
 |[]=>by simp[tK]
 | .mk n v::l=>by rw[tK,Dy l];rfl
theorem AH.b0(v:AH):v.lv=v.l.map AH.C:=by cases v;rw[AH.lv,Dx];rfl
theorem AH.bf(v:AH):v.mv=v.m.map AG.C:=by cases v;rw[AH.mv,Dy];rfl
theorem AH.ba(v:AH):v.lv.length=v.l.length:=by simp[AH.b0]
theorem AH.bl(v:AH):v.mv.length=v.m.length:=by simp[AH.bf]
def lK{v:AH}{k:Nat}(h:k<v.l.length):v.lv[k]? =some v.l[k].C:=by grind[AH.b0]
def xU{v:AH}{k:Nat}(h:k<v.m.length):v.mv[k]? =some v.m[k].C:=by grind[AH.bf]
mutual
theorem AH.K:∀v:AH,v.C.K=true
 | .mk k n s l m=>by simp only[AH.C,AV.K,aB,Bool.and_true,Bool.true_and];rw[AH.lv,AH.mv,y7 l,y8 m];rfl
theorem y7:∀l:List AH,aB (tJ l)=true
 |[]=>by simp[tJ,aB]
 |v::l=>by have h1:=AH.K v;have h2:=y7 l;rw[tJ,aB,h2,Bool.and_true];exact h1
theorem y8:∀l:List AG,aB (tK l)=true
 |[]=>by simp[tK,aB]
 | .mk n v::l=>by have h1:=AH.K v;have h2:=y8 l;rw[tK,aB,h2,Bool.and_true];simpa only [AH.C,AV.K,aB,Bool.and_true,Bool.true_and]using h1
end
theorem AH.bo(v:AH):aB v.lv=true:=by cases v;rw[AH.lv];exact y7 _
theorem AH.bt(v:AH):aB v.mv=true:=by cases v;rw[AH.mv];exact y8 _
theorem AG.K(m:AG):m.C.K=true:=by simp only[AG.C,AV.K,aB,AH.bo,AH.bt];rfl
theorem AG.fits(m:AG):Av.fits true 6 m.C=true:=rfl
mutual
def AH.size:AH->Nat
 | .mk _ _ s l m=>s.length+iO l+mW m+6
def iO:List AH->Nat
 |[]=>0
 |v::l=>AH.size v+iO l
def mW:List AG->Nat
 |[]=>0
 | .mk n v::l=>n.length+2+AH.size v+mW l
end
def AG.size(m:AG):Nat:=m.name.length+2+m.v.size
theorem v6:∀l:List AH,iO l=aA AH.size l
 |[]=>by simp[iO,aA]
 |v::l=>by rw[iO,aA,v6 l]
theorem iP:∀l:List AG,mW l=aA AG.size l
 |[]=>by simp[mW,aA]
 | .mk n v::l=>by rw[mW,aA,iP l];rfl
theorem AH.ax(v:AH):v.size=v.s.length+aA AH.size v.l+aA AG.size v.m+6:=by cases v;rw[AH.size,v6,iP];rfl
theorem AH.au(v:AH):1<=v.size:=by simp[AH.ax]
theorem AG.au(m:AG):1<=m.size:=Xr
def dI{v:AH}{k:Nat}(h:k<v.l.length):v.l[k].size<v.size:=by have:=aN (size:=AH.size) (getElem_mem h);rw[v.ax];omega
def dP{v:AH}{k:Nat}(h:k<v.m.length):v.m[k].v.size<v.size:=WT
theorem AH.bu(v:AH):v.l.length<=v.size:=by have:=aJ AH.au v.l;rw[v.ax];omega
theorem AH.b3(v:AH):v.m.length<=v.size:=by have:=aJ AG.au v.m;rw[v.ax];omega
mutual
def AH.ok:AH->Prop
 | .mk k n _ l m=>(Lit.int .i64 k).wf=true/\(Lit.int .i64 n).wf=true/\l6 l/\l9 m
def l6:List AH->Prop
 |[]=>True
 |v::l=>AH.ok v/\l6 l
def l9:List AG->Prop
 |[]=>True
 | .mk _ v::l=>AH.ok v/\l9 l
end
def AG.ok(m:AG):Prop:=m.v.ok
def Dz:∀ {l:List AH},(∀x∈l,x.ok)->l6 l
 |[],_=>by rw[l6];trivial
 |v::l,h=>by rw[l6];exact⟨h v Wa,Dz λx Y=>h x Yo⟩
def DA:∀ {l:List AG},(∀x∈l,x.ok)->l9 l
 |[],_=>by rw[l9];trivial
 | .mk n v::l,h=>by rw[l9];exact⟨h (.mk n v) Wa,DA λx Y=>h x Yo⟩
def Pf(n:Nat):AP prog n 2 false (λx:Int => .int .i64 x) (λ_=>1) (λx=>(Lit.int .i64 x).wf=true):=AP.int underlying2
theorem AP.zero{P:Program}{t:TypeId}{agg:Bool}{α:Type}{b:α->AV}{size:α->Nat}{ok:α->Prop}:AP P 0 t agg b size ok:=λ_ _ _ a _ _ _ h1 h2=>by
 cases a with
 |zero=>simp[DataW.trod]at h2
 |succ m=>omega
def DB:∀n:Nat,AP prog n 43 true AH.C AH.size AH.ok/\AP prog n 41 false (λl => .slice (l.map AH.C) .no) (λl=>aA AH.size l+1) (λl=>∀x∈l,x.ok)/\
  AP prog n 82 true AG.C AG.size AG.ok/\AP prog n 29 false (λl => .slice (l.map AG.C) .no) (λl=>aA AG.size l+1) (λl=>∀x∈l,x.ok)
 |0=>⟨AP.zero,AP.zero,AP.zero,AP.zero⟩
 |n+1=>by
  obtain⟨h1,h2,h3,h4⟩:=DB n;refine⟨?_,AP.slice underlying41 (c:=5) Wb Wc h1, ?_,AP.slice underlying29 (c:=6) Wb Wc h3⟩
  ·refine(AP.struct underlying43 Wb
    (AU.cons (c:=1) rfl Wb (bL λ_=>rfl) (nR n)
     (AU.cons (c:=1) rfl Wb (bL λ_=>rfl) (Pf n)
      (AU.cons (c:=1) rfl Wb (bL λ_=>rfl) (dO n)
       (AU.cons (c:=1) rfl Wb (bL λ_=>rfl) h2
        (AU.cons (c:=1) rfl Wb (bL λ_=>rfl) h4 AU.nil)))))).map
    (λx=>AH.mk x.1 x.2.1 x.2.2.1 x.2.2.2.1 x.2.2.2.2.1) (λx=> ?_) (λx=> ?_) (λx h=> ?_)
   ·simp only[AH.C,AH.lv,AH.mv,Dx,Dy];rfl
   ·simp only[AH.size,v6,iP];omega
   ·rw[AH.ok];exact⟨h.1,h.2.1,Dz h.2.2.2.1,DA h.2.2.2.2.1⟩
  ·refine(AP.struct underlying82 Wb
    (AU.cons (c:=1) rfl Wb (bL λ_=>rfl) (dO n)
     (AU.cons (c:=5) rfl Wb (kS λ_=>⟨_,rfl⟩) h1 AU.nil))).map
    (λx=>AG.mk x.1 x.2.1) (λx=> ?_) (λx=> ?_) (λx h=>h.2.1)
   ·rfl
   ·show AG.size _<=_;unfold AG.size;simp only[AG.name,AG.v];omega
def HT(n:Nat):AP prog n 43 true AH.C AH.size AH.ok:=(DB n).1
def tL(n:Nat):AP prog n 29 false (λl => .slice (l.map AG.C) .no) (λl=>aA AG.size l+1) (λl=>∀x∈l,x.ok):=(DB n).2.2.2
mutual
def rY:AH->AH->Bool
 | .mk k n s l m, .mk k' n' s' l' m'=> k==k'&& n==n'&& s==s'&& qN l l'&& qO m m'
def qN:List AH->List AH->Bool
 |[],[]=>true
 |a::l,b::l'=> rY a b&&qN l l'
 |_,_=>false
def qO:List AG->List AG->Bool
 |[],[]=>true
 | .mk n a::l, .mk n' b::l'=> n==n'&& rY a b&&qO l l'
 |_,_=>false
end
theorem mK(n m:Nat)(v:AH):aE n m v.lv=true:=aC n m _ v.bo
theorem mL(n m:Nat)(v:AH):aE n m v.mv=true:=aC n m _ v.bt
def QQ(a b:AH):rY a b=(a.kind==b.kind&&a.n==b.n&&a.s==b.s&&qN a.l b.l&&qO a.m b.m):=by cases a;cases b;rw[rY];rfl
theorem HU:∀ {p q:List AH},p.length≠q.length->qN p q=false
 |[],[],h=>absurd rfl h
 |[],_::_,_=>by rw[qN]<;>simp
 |_::_,[],_=>by rw[qN]<;>simp
 |a::p,b::q,h=>by rw[qN,HU (p:=p) (q:=q) Wp,Bool.and_false]
theorem HV:∀ {p q:List AG},p.length≠q.length->qO p q=false
 |[],[],h=>absurd rfl h
 |[],_::_,_=>by rw[qO]<;>simp
 | .mk _ _::_,[],_=>by rw[qO]<;>simp
 | .mk _ _::p, .mk _ _::q,h=>by rw[qO,HV (p:=p) (q:=q) Wp,Bool.and_false]
theorem FO{a b:List AH}{k:Nat}(h1:k<a.length)(h2:k<b.length):qN (a.drop k) (b.drop k)=(rY a[k] b[k]&&qN (a.drop (k+1)) (b.drop (k+1))):=by rw[drop_eq_getElem_cons h1,drop_eq_getElem_cons h2,qN]
theorem FP{a b:List AG}{k:Nat}(h1:k<a.length)(h2:k<b.length):qO (a.drop k) (b.drop k)=(a[k].name==b[k].name&&rY a[k].v b[k].v&&qO (a.drop (k+1)) (b.drop (k+1))):=by rw[drop_eq_getElem_cons h1,drop_eq_getElem_cons h2];cases a[k];cases b[k];rw[qO];rfl
def aU{α:Type}{f:α->AV}{l:List α}{k:Nat}(h:k<l.length):(l.map f)[k]? =some (f l[k]):=XD
theorem aT(l:List AG):aB (l.map AG.C)=true:=bF AG.K l
def Ko(l:List AH):aB (l.map AH.C)=true:=bF AH.K l
theorem dE(n m:Nat)(l:List AG):aE n m (l.map AG.C)=true:=aC n m _ (aT l)
def QR(n m:Nat)(l:List AH):aE n m (l.map AH.C)=true:=aC n m _ (Ko l)
structure Ae where
 name:AF
 ak:Int
 ay:Int
 deriving DecidableEq
def Ae.C(t:Ae):AV := .agg [.str t.name, .int .i64 t.ak, .int .i64 t.ay]
structure AM where
 name:AF
 args:List AG
def AM.C(d:AM):AV := .agg [.str d.name, .slice (d.args.map AG.C) .no]
structure AO where
 name:AF
 t:Ae
 has:Bool
 d:AH
def AO.C(p:AO):AV := .agg [.str p.name, .str p.t.name, .int .i64 p.t.ak, .int .i64 p.t.ay, .bool p.has, .int .i64 p.d.kind, .int .i64 p.d.n, .str p.d.s, .slice p.d.lv .no, .slice p.d.mv .no]
structure Ah where
 name:AF
 params:List AO
 t:Ae
 ao:List AM
def Ah.C(f:Ah):AV := .agg [.str f.name, .slice (f.params.map AO.C) .no, .str f.t.name, .int .i64 f.t.ak, .int .i64 f.t.ay, .slice (f.ao.map AM.C) .no]
structure Ag where
 kind:Int
 name:AF
 faces:List AF
 fields:List Ah
 aw:List AF
 params:List AO
def Ag.C(d:Ag):AV := .agg [.int .i64 d.kind, .str d.name, .slice (d.faces.map AV.str) .no, .slice (d.fields.map Ah.C) .no, .slice (d.aw.map AV.str) .no, .slice (d.params.map AO.C) .no]
structure AI where
 ah:List Ag
 query:AF
 ar:AF
def AI.C(s:AI):AV := .agg [.slice (s.ah.map Ag.C) .no, .str s.query, .str s.ar]
structure CY where
 var:AF
 t:Ae
 has:Bool
 deriving DecidableEq
def CY.C(x:CY):AV := .agg [.str x.var, .str x.t.name, .int .i64 x.t.ak, .int .i64 x.t.ay, .bool x.has]
theorem aR(l:List AF):aB (l.map AV.str)=true:=bF (λ_=>rfl) l
theorem qP(l:List Int):aB (l.map (AV.int .i64))=true:=bF (λ_=>rfl) l
@[simp] theorem aBr(n m:Nat)(l:List Int):aE n m (List.map (AV.int .i64) l)=true:=aC n m _ (qP l)
theorem Ae.K(t:Ae):t.C.K=true:=rfl
theorem AM.K(d:AM):d.C.K=true:=by simp[AM.C,AV.K,aB,aT]
theorem b8(l:List AM):aB (l.map AM.C)=true:=bF AM.K l
theorem AO.K(p:AO):p.C.K=true:=by simp[AO.C,AV.K,aB,AH.bo,AH.bt]
theorem b9(l:List AO):aB (l.map AO.C)=true:=bF AO.K l
theorem Ah.K(f:Ah):f.C.K=true:=by simp[Ah.C,AV.K,aB,b9,b8]
theorem gF(l:List Ah):aB (l.map Ah.C)=true:=bF Ah.K l
theorem Ag.K(d:Ag):d.C.K=true:=by simp[Ag.C,AV.K,aB,b9,gF,aR]
theorem dS(l:List Ag):aB (l.map Ag.C)=true:=bF Ag.K l
theorem AI.K(s:AI):s.C.K=true:=by simp[AI.C,AV.K,aB,dS]
@[simp] theorem aBs(n m:Nat)(l:List _):aE n m (List.map AV.str l)=true:=aC n m _ (aR l)
@[simp] theorem aB1(n m:Nat)(l:List _):aE n m (List.map AM.C l)=true:=aC n m _ (b8 l)
@[simp] theorem aBt(n m:Nat)(l:List _):aE n m (List.map AO.C l)=true:=aC n m _ (b9 l)
@[simp] theorem aBu(n m:Nat)(l:List _):aE n m (List.map Ah.C l)=true:=aC n m _ (gF l)
@[simp] theorem aBv(n m:Nat)(l:List _):aE n m (List.map Ag.C l)=true:=aC n m _ (dS l)
@[simp] theorem aBw(n m:Nat)(l:List _):aE n m (List.map AG.C l)=true:=aC n m _ (aT l)
@[simp] theorem aDP(n m:Nat)(v:AH):aE n m v.lv=true:=aC n m _ v.bo
@[simp] theorem aDQ(n m:Nat)(v:AH):aE n m v.mv=true:=aC n m _ v.bt
@[simp] theorem aDR(n m:Nat)(x:Ae):(Ae.C x).aa n m=true:=aF n m _ (Ae.K x)
@[simp] theorem aDS(n m:Nat)(x:Ag):(Ag.C x).aa n m=true:=aF n m _ (Ag.K x)
@[simp] theorem aDT(n m:Nat)(x:AI):(AI.C x).aa n m=true:=aF n m _ (AI.K x)
@[simp] theorem aDU(n m:Nat)(x:AH):(AH.C x).aa n m=true:=aF n m _ (AH.K x)
def Kp(l:List AF):Av.eQ false 1 (l.map AV.str)=true:=iM (λ_=>rfl) l
def Ae.size(t:Ae):Nat:=t.name.length+4
def AM.size(d:AM):Nat:=d.name.length+aA AG.size d.args+3
def AO.size(p:AO):Nat:=p.name.length+p.t.size+p.d.size+3
def Ah.size(f:Ah):Nat:=f.name.length+aA AO.size f.params+f.t.size+aA AM.size f.ao+4
def dA(l:List AF):Nat:=aA (λs:AF=>s.length+1) l+1
def Ag.size(d:Ag):Nat:=d.name.length+dA d.faces+aA Ah.size d.fields+dA d.aw+aA AO.size d.params+5
def AI.size(s:AI):Nat:=aA Ag.size s.ah+s.query.length+s.ar.length+4
def AM.ok(d:AM):Prop:=∀m∈d.args,m.ok
def AO.ok(p:AO):Prop:=p.d.ok
def Ah.ok(f:Ah):Prop:=(∀p∈f.params,p.ok)/\∀d∈f.ao,d.ok
def Ag.ok(d:Ag):Prop:=(∀f∈d.fields,f.ok)/\∀p∈d.params,p.ok
def AI.ok(s:AI):Prop:=∀d∈s.ah,d.ok
def Er(n:Nat):AP prog n 4 false (λx:Bool => .bool x) (λ_=>1) (λ_=>True):=AP.bool underlying4
def FQ:∀n:Nat,AP prog n 49 false (λl:List AF => .slice (l.map AV.str) .no) (λl=>aA (λx:AF=>x.length+1) l+1) (λl=>∀x∈l,True)
 |0=>AP.zero
 |n+1=>AP.slice underlying49 (c:=1) Wb Wc (dO n)
def DC:∀n:Nat,AP prog n 59 true Ae.C Ae.size (λ_=>True)
 |0=>AP.zero
 |n+1=>(AP.struct underlying59 Wb
   (AU.cons (c:=1) rfl Wb (bL λ_=>rfl) (dO n)
    (AU.cons (c:=1) rfl Wb (bL λ_=>rfl) (nR n)
     (AU.cons (c:=1) rfl Wb (bL λ_=>rfl) (nR n) AU.nil)))).map
   (λx=>(⟨x.1,x.2.1,x.2.2.1⟩:Ae)) (λ_=>rfl) (λx=>by simp only[Ae.size];omega) (λx h=>trivial)
def Pg:∀n:Nat,AP prog n 147 true AM.C AM.size AM.ok
 |0=>AP.zero
 |n+1=>(AP.struct underlying147 Wb
   (AU.cons (c:=1) rfl Wb (bL λ_=>rfl) (dO n)
    (AU.cons (c:=1) rfl Wb (bL λ_=>rfl) (tL n) AU.nil))).map
   (λx=>(⟨x.1,x.2.1⟩:AM)) (λ_=>rfl) (λx=>by simp only[AM.size];omega) (λx h=>h.2.1)
def tM:∀n:Nat,AP prog n 34 false (λl => .slice (l.map AM.C) .no) (λl=>aA AM.size l+1) (λl=>∀x∈l,x.ok)
 |0=>AP.zero
 |n+1=>AP.slice underlying34 (c:=2) Wb Wc (Pg n)
def Ph:∀n:Nat,AP prog n 148 true AO.C AO.size AO.ok
 |0=>AP.zero
 |n+1=>(AP.struct underlying148 Wb
   (AU.cons (c:=1) rfl Wb (bL λ_=>rfl) (dO n)
    (AU.cons (c:=3) rfl Wb (kS λ_=>⟨_,rfl⟩) (DC n)
     (AU.cons (c:=1) rfl Wb (bL λ_=>rfl) (Er n)
      (AU.cons (c:=5) rfl Wb (kS λ_=>⟨_,rfl⟩) (HT n) AU.nil))))).map
   (λx=>(⟨x.1,x.2.1,x.2.2.1,x.2.2.2.1⟩:AO)) (λ_=>rfl) (λx=>by simp only[AO.size];omega) (λx h=>h.2.2.2.1)
def FR:∀n:Nat,AP prog n 51 false (λl => .slice (l.map AO.C) .no) (λl=>aA AO.size l+1) (λl=>∀x∈l,x.ok)
 |0=>AP.zero
 |n+1=>AP.slice underlying51 (c:=10) Wb Wc (Ph n)
def Pi:∀n:Nat,AP prog n 61 true Ah.C Ah.size Ah.ok
 |0=>AP.zero
 |n+1=>(AP.struct underlying61 Wb
   (AU.cons (c:=1) rfl Wb (bL λ_=>rfl) (dO n)
    (AU.cons (c:=1) rfl Wb (bL λ_=>rfl) (FR n)
     (AU.cons (c:=3) rfl Wb (kS λ_=>⟨_,rfl⟩) (DC n)
      (AU.cons (c:=1) rfl Wb (bL λ_=>rfl) (tM n) AU.nil))))).map
   (λx=>(⟨x.1,x.2.1,x.2.2.1,x.2.2.2.1⟩:Ah)) (λ_=>rfl) (λx=>by simp only[Ah.size];omega) (λx h=>⟨h.2.1,h.2.2.2.1⟩)
def Md:∀n:Nat,AP prog n 50 false (λl => .slice (l.map Ah.C) .no) (λl=>aA Ah.size l+1) (λl=>∀x∈l,x.ok)
 |0=>AP.zero
 |n+1=>AP.slice underlying50 (c:=6) Wb Wc (Pi n)
def Pj:∀n:Nat,AP prog n 53 true Ag.C Ag.size Ag.ok
 |0=>AP.zero
 |n+1=>(AP.struct underlying53 Wb
   (AU.cons (c:=1) rfl Wb (bL λ_=>rfl) (nR n)
    (AU.cons (c:=1) rfl Wb (bL λ_=>rfl) (dO n)
     (AU.cons (c:=1) rfl Wb (bL λ_=>rfl) (FQ n)
      (AU.cons (c:=1) rfl Wb (bL λ_=>rfl) (Md n)
       (AU.cons (c:=1) rfl Wb (bL λ_=>rfl) (FQ n)
        (AU.cons (c:=1) rfl Wb (bL λ_=>rfl) (FR n) AU.nil))))))).map
   (λx=>(⟨x.1,x.2.1,x.2.2.1,x.2.2.2.1,x.2.2.2.2.1,x.2.2.2.2.2.1⟩:Ag)) (λ_=>rfl) (λx=>by simp only[Ag.size,dA];omega) (λx h=>⟨h.2.2.2.1,h.2.2.2.2.2.1⟩)
def Me:∀n:Nat,AP prog n 22 false (λl => .slice (l.map Ag.C) .no) (λl=>aA Ag.size l+1) (λl=>∀x∈l,x.ok)
 |0=>AP.zero
 |n+1=>AP.slice underlying22 (c:=6) Wb Wc (Pj n)
def Pk:∀n:Nat,AP prog n 24 true AI.C AI.size AI.ok
 |0=>AP.zero
 |n+1=>(AP.struct underlying24 Wb
   (AU.cons (c:=1) rfl Wb (bL λ_=>rfl) (Me n)
    (AU.cons (c:=1) rfl Wb (bL λ_=>rfl) (dO n)
     (AU.cons (c:=1) rfl Wb (bL λ_=>rfl) (dO n) AU.nil)))).map
   (λx=>(⟨x.1,x.2.1,x.2.2.1⟩:AI)) (λ_=>rfl) (λx=>by simp only[AI.size];omega) (λx h=>h.1)
inductive Sl where
 |mk (kind:Int) (bn name:AF) (args:List AG) (ao:List AM) (on:AF) (w:List Sl)
def Sl.kind:Sl->Int
 | .mk k _ _ _ _ _ _=>k
def Sl.bn:Sl->AF
 | .mk _ a _ _ _ _ _=>a
def Sl.name:Sl->AF
 | .mk _ _ n _ _ _ _=>n
def Sl.args:Sl->List AG
 | .mk _ _ _ a _ _ _=>a
def Sl.ao:Sl->List AM
 | .mk _ _ _ _ d _ _=>d
def Sl.on:Sl->AF
 | .mk _ _ _ _ _ o _=>o
def Sl.O:Sl->List Sl
 | .mk _ _ _ _ _ _ l=>l
mutual
def Sl.sv:Sl->List AV
 | .mk _ _ _ _ _ _ l=>v7 l
def v7:List Sl->List AV
 |[]=>[]
 |x::l => .agg [.int .i64 x.kind, .str x.bn, .str x.name, .slice (x.args.map AG.C) .no, .slice (x.ao.map AM.C) .no, .str x.on, .slice (Sl.sv x) .no]::v7 l
end
def Sl.C(x:Sl):AV := .agg [.int .i64 x.kind, .str x.bn, .str x.name, .slice (x.args.map AG.C) .no, .slice (x.ao.map AM.C) .no, .str x.on, .slice x.sv .no]
theorem xV:∀l:List Sl,v7 l=l.map Sl.C
 |[]=>by simp[v7]
 |x::l=>by rw[v7,xV l];rfl
theorem Sl.bb(x:Sl):x.sv=x.O.map Sl.C:=by cases x;rw[Sl.sv,xV];rfl
def Sl.cj(x:Sl):x.sv.length=x.O.length:=by simp[Sl.bb]
mutual
theorem Sl.K:∀x:Sl,x.C.K=true
 | .mk k a n m d o l=>by simp only[Sl.C,AV.K,aB,Bool.and_true,Bool.true_and,aT,b8];rw[Sl.sv,y9 l]
theorem y9:∀l:List Sl,aB (v7 l)=true
 |[]=>by simp[v7,aB]
 |x::l=>by have h1:=Sl.K x;have h2:=y9 l;rw[v7,aB,h2,Bool.and_true];exact h1
end
theorem aZ(l:List Sl):aB (l.map Sl.C)=true:=by rw[<-xV];exact y9 l
theorem Sl.b8(x:Sl):aB x.sv=true:=by rw[x.bb];exact aZ _
theorem Sl.fits(x:Sl):Av.fits true 7 x.C=true:=rfl
def FT(l:List Sl):Av.eQ true 7 (l.map Sl.C)=true:=iM Sl.fits l
mutual
def Sl.size:Sl->Nat
 | .mk _ a n m d o l=>a.length+n.length+aA AG.size m+aA AM.size d+o.length+fS l+8
def fS:List Sl->Nat
 |[]=>0
 |x::l=>Sl.size x+fS l
end
theorem v8:∀l:List Sl,fS l=aA Sl.size l
 |[]=>by simp[fS,aA]
 |v::l=>by rw[fS,aA,v8 l]
theorem Sl.ax(x:Sl):x.size=x.bn.length+x.name.length+aA AG.size x.args+aA AM.size x.ao+x.on.length+aA Sl.size x.O+8:=by cases x;rw[Sl.size,v8];rfl
theorem Sl.au(x:Sl):1<=x.size:=by simp[Sl.ax]
mutual
def Sl.ok:Sl->Prop
 | .mk k _ _ m d _ l=>(Lit.int .i64 k).wf=true/\(∀x∈m,x.ok)/\(∀x∈d,x.ok)/\DD l
def DD:List Sl->Prop
 |[]=>True
 |x::l=>Sl.ok x/\DD l
end
def DE:∀ {l:List Sl},(∀x∈l,x.ok)->DD l
 |[],_=>by rw[DD];trivial
 |v::l,h=>by rw[DD];exact⟨h v Wa,DE λx Y=>h x Yo⟩
def FU:∀ {l:List Sl},DD l->∀x∈l,x.ok
 |[],_,_,h=>by cases h
 |v::l,h,x,Y=>by
  rcases List.mem_cons.1 Y with rfl|Y
  ·exact h.1
  ·exact FU h.2 x Y
theorem Sl.ok_eq(x:Sl):x.ok↔(Lit.int .i64 x.kind).wf=true/\(∀m∈x.args,m.ok)/\(∀d∈x.ao,d.ok)/\∀y∈x.O,y.ok:=by cases x;exact⟨λh=>⟨h.1,h.2.1,h.2.2.1,FU h.2.2.2⟩,λh=>⟨h.1,h.2.1,h.2.2.1,DE h.2.2.2⟩⟩
structure Aj where
 kind:Int
 name:AF
 vars:List AO
 ao:List AM
 O:List Sl
def Aj.C(o:Aj):AV := .agg [.int .i64 o.kind, .str o.name, .slice (o.vars.map AO.C) .no, .slice (o.ao.map AM.C) .no, .slice (o.O.map Sl.C) .no]
structure Af where
 name:AF
 on:AF
 ao:List AM
 O:List Sl
def Af.C(f:Af):AV := .agg [.str f.name, .str f.on, .slice (f.ao.map AM.C) .no, .slice (f.O.map Sl.C) .no]
structure AR where
 ops:List Aj
 ai:List Af
def AR.C(d:AR):AV := .agg [.slice (d.ops.map Aj.C) .no, .slice (d.ai.map Af.C) .no]
structure As where
 av:AF
 x:Sl
def As.C(p:As):AV := .agg [.str p.av, .int .i64 p.x.kind, .str p.x.bn, .str p.x.name, .slice (p.x.args.map AG.C) .no, .slice (p.x.ao.map AM.C) .no, .str p.x.on, .slice p.x.sv .no]
structure AW where
 key:AF
 O:List Sl
def AW.C(g:AW):AV := .agg [.str g.key, .slice (g.O.map Sl.C) .no]
theorem Aj.K(o:Aj):o.C.K=true:=by simp[Aj.C,AV.K,aB,b9,b8,aZ]
theorem Af.K(f:Af):f.C.K=true:=by simp[Af.C,AV.K,aB,b8,aZ]
theorem AW.K(g:AW):g.C.K=true:=by simp[AW.C,AV.K,aB,aZ]
theorem As.K(p:As):p.C.K=true:=by simp[As.C,AV.K,aB,aT,b8,Sl.b8]
theorem mB(l:List Aj):aB (l.map Aj.C)=true:=bF Aj.K l
theorem jX(l:List Af):aB (l.map Af.C)=true:=bF Af.K l
theorem cQ(l:List AW):aB (l.map AW.C)=true:=bF AW.K l
theorem dT(l:List As):aB (l.map As.C)=true:=bF As.K l
theorem As.fits(d:As):Av.fits true 8 d.C=true:=rfl
theorem zA(l:List As):Av.eQ true 8 (l.map As.C)=true:=iM As.fits l
theorem AR.K(d:AR):d.C.K=true:=by simp[AR.C,AV.K,aB,mB,jX]
@[simp] theorem Tw(n m:Nat)(l:List _):aE n m (List.map Sl.C l)=true:=aC n m _ (aZ l)
@[simp] theorem aBx(n m:Nat)(l:List _):aE n m (List.map Aj.C l)=true:=aC n m _ (mB l)
@[simp] theorem aBy(n m:Nat)(l:List _):aE n m (List.map Af.C l)=true:=aC n m _ (jX l)
@[simp] theorem aBz(n m:Nat)(l:List _):aE n m (List.map AW.C l)=true:=aC n m _ (cQ l)
@[simp] theorem aDV(n m:Nat)(x:Sl):aE n m x.sv=true:=aC n m _ x.b8
@[simp] theorem aD1(n m:Nat)(x:Sl):(Sl.C x).aa n m=true:=aF n m _ (Sl.K x)
@[simp] theorem aDW(n m:Nat)(x:Aj):(Aj.C x).aa n m=true:=aF n m _ (Aj.K x)
@[simp] theorem aDX(n m:Nat)(x:AR):(AR.C x).aa n m=true:=aF n m _ (AR.K x)
def Aj.size(o:Aj):Nat:=o.name.length+aA AO.size o.vars+aA AM.size o.ao+aA Sl.size o.O+6
def Af.size(f:Af):Nat:=f.name.length+f.on.length+aA AM.size f.ao+aA Sl.size f.O+4
def AR.size(d:AR):Nat:=aA Aj.size d.ops+aA Af.size d.ai+3
def Aj.ok(o:Aj):Prop:=(∀p∈o.vars,p.ok)/\(∀d∈o.ao,d.ok)/\∀x∈o.O,x.ok
def Af.ok(f:Af):Prop:=(∀d∈f.ao,d.ok)/\∀x∈f.O,x.ok
def AR.ok(d:AR):Prop:=(∀o∈d.ops,o.ok)/\∀f∈d.ai,f.ok
def DF:∀n:Nat,AP prog n 150 true Sl.C Sl.size Sl.ok/\AP prog n 35 false (λl => .slice (l.map Sl.C) .no) (λl=>aA Sl.size l+1) (λl=>∀x∈l,x.ok)
 |0=>⟨AP.zero,AP.zero⟩
 |n+1=>by
  obtain⟨h1,h2⟩:=DF n;refine⟨?_,AP.slice underlying35 (c:=7) Wb Wc h1⟩;refine(AP.struct underlying150 Wb
   (AU.cons (c:=1) rfl Wb (bL λ_=>rfl) (nR n)
    (AU.cons (c:=1) rfl Wb (bL λ_=>rfl) (dO n)
     (AU.cons (c:=1) rfl Wb (bL λ_=>rfl) (dO n)
      (AU.cons (c:=1) rfl Wb (bL λ_=>rfl) (tL n)
       (AU.cons (c:=1) rfl Wb (bL λ_=>rfl) (tM n)
        (AU.cons (c:=1) rfl Wb (bL λ_=>rfl) (dO n)
         (AU.cons (c:=1) rfl Wb (bL λ_=>rfl) h2 AU.nil)))))))).map
   (λx=>Sl.mk x.1 x.2.1 x.2.2.1 x.2.2.2.1 x.2.2.2.2.1 x.2.2.2.2.2.1 x.2.2.2.2.2.2.1) (λx=> ?_) (λx=> ?_) (λx h=> ?_)
  ·simp only[Sl.C,Sl.sv,xV];rfl
  ·simp only[Sl.size,v8];omega
  ·rw[Sl.ok];exact⟨h.1,h.2.2.2.1,h.2.2.2.2.1,DE h.2.2.2.2.2.2.1⟩
def Mf:∀n:Nat,AP prog n 137 true AO.C AO.size AO.ok
 |0=>AP.zero
 |n+1=>(AP.struct underlying137 Wb
   (AU.cons (c:=1) rfl Wb (bL λ_=>rfl) (dO n)
    (AU.cons (c:=3) rfl Wb (kS λ_=>⟨_,rfl⟩) (DC n)
     (AU.cons (c:=1) rfl Wb (bL λ_=>rfl) (Er n)
      (AU.cons (c:=5) rfl Wb (kS λ_=>⟨_,rfl⟩) (HT n) AU.nil))))).map
   (λx=>(⟨x.1,x.2.1,x.2.2.1,x.2.2.2.1⟩:AO)) (λ_=>rfl) (λx=>by simp only[AO.size];omega) (λx h=>h.2.2.2.1)
def Kq:∀n:Nat,AP prog n 33 false (λl => .slice (l.map AO.C) .no) (λl=>aA AO.size l+1) (λl=>∀x∈l,x.ok)
 |0=>AP.zero
 |n+1=>AP.slice underlying33 (c:=10) Wb Wc (Mf n)
def QS:∀n:Nat,AP prog n 37 true Aj.C Aj.size Aj.ok
 |0=>AP.zero
 |n+1=>(AP.struct underlying37 Wb
   (AU.cons (c:=1) rfl Wb (bL λ_=>rfl) (nR n)
    (AU.cons (c:=1) rfl Wb (bL λ_=>rfl) (dO n)
     (AU.cons (c:=1) rfl Wb (bL λ_=>rfl) (Kq n)
      (AU.cons (c:=1) rfl Wb (bL λ_=>rfl) (tM n)
       (AU.cons (c:=1) rfl Wb (bL λ_=>rfl) (DF n).2 AU.nil)))))).map
   (λx=>(⟨x.1,x.2.1,x.2.2.1,x.2.2.2.1,x.2.2.2.2.1⟩:Aj)) (λ_=>rfl) (λx=>by simp only[Aj.size];omega) (λx h=>⟨h.2.2.1,h.2.2.2.1,h.2.2.2.2.1⟩)
def Pm:∀n:Nat,AP prog n 25 false (λl => .slice (l.map Aj.C) .no) (λl=>aA Aj.size l+1) (λl=>∀x∈l,x.ok)
 |0=>AP.zero
 |n+1=>AP.slice underlying25 (c:=5) Wb Wc (QS n)
def Mh:∀n:Nat,AP prog n 129 true Af.C Af.size Af.ok
 |0=>AP.zero
 |n+1=>(AP.struct underlying129 Wb
   (AU.cons (c:=1) rfl Wb (bL λ_=>rfl) (dO n)
    (AU.cons (c:=1) rfl Wb (bL λ_=>rfl) (dO n)
     (AU.cons (c:=1) rfl Wb (bL λ_=>rfl) (tM n)
      (AU.cons (c:=1) rfl Wb (bL λ_=>rfl) (DF n).2 AU.nil))))).map
   (λx=>(⟨x.1,x.2.1,x.2.2.1,x.2.2.2.1⟩:Af)) (λ_=>rfl) (λx=>by simp only[Af.size];omega) (λx h=>⟨h.2.2.1,h.2.2.2.1⟩)
def Kr:∀n:Nat,AP prog n 26 false (λl => .slice (l.map Af.C) .no) (λl=>aA Af.size l+1) (λl=>∀x∈l,x.ok)
 |0=>AP.zero
 |n+1=>AP.slice underlying26 (c:=4) Wb Wc (Mh n)
def Pn:∀n:Nat,AP prog n 28 true AR.C AR.size AR.ok
 |0=>AP.zero
 |n+1=>(AP.struct underlying28 Wb
   (AU.cons (c:=1) rfl Wb (bL λ_=>rfl) (Pm n)
    (AU.cons (c:=1) rfl Wb (bL λ_=>rfl) (Kr n) AU.nil))).map
   (λx=>(⟨x.1,x.2.1⟩:AR)) (λ_=>rfl) (λx=>by simp only[AR.size];omega) (λx h=>⟨h.1,h.2.1⟩)
end Go.Proofs.YtdodieljpcfpcaaGreatDoor
namespace Go.Av
open Go
variable [AK]
structure BY(Q:Prop):Prop where
 val:Q
theorem AB.go{P:Program}[Lay P]{N:Nat}{D:List Deferred}{c:Code}{K:AX->AE->St->Prop}{s:AE}{H:St}(q:Q)
  (h:BY Q->AB P N D c K s H:=by intro q;(repeat' first|refine .seq ?_|refine .rg ?_|refine .rd ?_|refine .block ?_|refine .scope ?_|refine .skip ?_|refine .label ?_|refine .exit ?_|refine .ret ?_|refine .ct ?_|refine .cf ?_|refine .cy ?_|refine .cn ?_|(refine .cond rfl ?_ ?_<;>intro O)|refine cS ?_|refine .nl ?_|refine .dd ?_|refine .ys ?_|refine .no ?_|(refine fL rfl ?_ ?_<;>intro O)|refine .lb ?_|refine .ln ?_|refine .ls ?_|refine .pv ?_|refine .ix ?_|refine .pt ?_|refine .pf ?_|refine .bx ?_|refine .al ?_|refine .st ?_|refine .ad ?_|refine .sb ?_|refine .mf ?_|refine .cl ?_|refine .cw ?_|refine .ck ?_|fail);exact q.val):AB P N D c K s H:=h ⟨q⟩
theorem AD.go{P:Program}[Lay P]{A:Array Oper}{G:Bool}{l:List Oper}{K:AX->AE->St->Prop}{I:List Ak}{s:AE}{H:St}(q:Q)
  (h:BY Q->AD P A G K l I s H:=by intro q;(repeat' first|refine .seq ?_|refine .rg ?_|refine .rd ?_|refine .block ?_|refine .scope ?_|refine .skip ?_|refine .label ?_|refine .exit ?_|refine .ret ?_|refine .ct ?_|refine .cf ?_|refine .cy ?_|refine .cn ?_|(refine .cond rfl ?_ ?_<;>intro O)|refine cS ?_|refine .nl ?_|refine .dd ?_|refine .ys ?_|refine .no ?_|(refine fL rfl ?_ ?_<;>intro O)|refine .lb ?_|refine .ln ?_|refine .ls ?_|refine .pv ?_|refine .ix ?_|refine .pt ?_|refine .pf ?_|refine .bx ?_|refine .al ?_|refine .st ?_|refine .ad ?_|refine .sb ?_|refine .mf ?_|refine .cl ?_|refine .cw ?_|refine .ck ?_|fail);exact q.val):AD P A G K l I s H:=h ⟨q⟩
theorem AB.ac{P:Program}[Lay P]{N:Nat}{D:List Deferred}{c:Code}{K:AX->AE->St->Prop}{s:AE}{H:St}(q:Q)
  (h:BY Q->AB P N D c K s H:=by intro q;(repeat' first|refine .br ?_|refine .seq ?_|refine .rg ?_|refine .rd ?_|refine .block ?_|refine .scope ?_|refine .skip ?_|refine .label ?_|refine .exit ?_|refine .ret ?_|refine .ct ?_|refine .cf ?_|refine .cy ?_|refine .cn ?_|(refine .cond rfl ?_ ?_<;>intro O)|refine cS ?_|refine .nl ?_|refine .dd ?_|refine .ys ?_|refine .no ?_|(refine fL rfl ?_ ?_<;>intro O)|refine .lb ?_|refine .ln ?_|refine .ls ?_|refine .pv ?_|refine .ix ?_|refine .pt ?_|refine .pf ?_|refine .bx ?_|refine .al ?_|refine .st ?_|refine .ad ?_|refine .sb ?_|refine .mf ?_|refine .cl ?_|refine .cw ?_|refine .ck ?_|fail);exact q.val):AB P N D c K s H:=h ⟨q⟩
theorem AB.s1{P:Program}[Lay P]{N:Nat}{D:List Deferred}{c:Code}{K:AX->AE->St->Prop}{s:AE}{H:St}(q:Q)
  (h:BY Q->AB P N D c K s H:=by intro q;(first|refine .seq ?_|refine .rg ?_|refine .rd ?_|refine .block ?_|refine .scope ?_|refine .skip ?_|refine .label ?_|refine .exit ?_|refine .ret ?_|refine .ct ?_|refine .cf ?_|refine .cy ?_|refine .cn ?_|refine cS ?_|refine .nl ?_|refine .dd ?_|refine .ys ?_|refine .no ?_|refine .lb ?_|refine .ln ?_|refine .ls ?_|refine .pv ?_|refine .ix ?_|refine .pt ?_|refine .pf ?_|refine .bx ?_|refine .al ?_|refine .st ?_|refine .ad ?_|refine .sb ?_|refine .mf ?_|refine .cl ?_|refine .cw ?_|refine .ck ?_);exact q.val):AB P N D c K s H:=h ⟨q⟩
theorem AD.s1{P:Program}[Lay P]{A:Array Oper}{G:Bool}{l:List Oper}{K:AX->AE->St->Prop}{I:List Ak}{s:AE}{H:St}(q:Q)
  (h:BY Q->AD P A G K l I s H:=by intro q;(first|refine .seq ?_|refine .rg ?_|refine .rd ?_|refine .block ?_|refine .scope ?_|refine .skip ?_|refine .label ?_|refine .exit ?_|refine .ret ?_|refine .ct ?_|refine .cf ?_|refine .cy ?_|refine .cn ?_|refine cS ?_|refine .nl ?_|refine .dd ?_|refine .ys ?_|refine .no ?_|refine .lb ?_|refine .ln ?_|refine .ls ?_|refine .pv ?_|refine .ix ?_|refine .pt ?_|refine .pf ?_|refine .bx ?_|refine .al ?_|refine .st ?_|refine .ad ?_|refine .sb ?_|refine .mf ?_|refine .cl ?_|refine .cw ?_|refine .ck ?_);exact q.val):AD P A G K l I s H:=h ⟨q⟩
theorem AB.q{P:Program}[Lay P]{N:Nat}{D:List Deferred}{y:Code}{K:AX->AE->St->Prop}{s:AE}{H:St}{c:Operand}(ht:b=true->AB P N D x K s H)(hf:b=false->AB P N D y K s H)(O:ev s c = .bool b:=by exact rfl):AB P N D (.cond c x y) K s H:=AB.cond O ht hf
theorem AD.q{P:Program}[Lay P]{A:Array Oper}{G:Bool}{K:AX->AE->St->Prop}{C:List Oper}{I:List Ak}{s:AE}{H:St}{dst:Option Tmp}{c:Op}{R:TypeId}{D:String}{S:Array Edge}{j:Nat}{b:Bool}(e:b=a->AD P A G K (⟨dst,c,R,D,S,none⟩::C) I s H)
  (d:b=(!a)->AD P A G K C (.pure::I) (iJ dst (.tup []) s) H) (h:yv A s j=some (.bool b):=by exact rfl):AD P A G K (⟨dst,c,R,D,S,some (j,a)⟩::C) I s H:=fL h e d
theorem cK{P:Program}[Lay P]{c:Code}{args:List AV}{H:St}{o:Av->St->Prop}(ts:List Nat){N:Nat}(hf:P.funcs[f]? =some fn)(h:AB P N [] c (fin ts o) (cB 0 args) H)(hb:fn.body=some c:=by exact rfl)(e:fn.ntmps=N:=by exact rfl)
  (b:(fn.name == "runtime.NumGoroutine")=false:=by exact rfl) (a:Nat.ble args.length N=true:=by exact rfl) (d:fn.results=(ts.map ResultVar.tmp).toArray:=by exact rfl) (hn:ts.length<=6:=by decide):AQ P f args H o:=AQ.enter ts hf hb e b a d hn h
theorem wA{P:Program}[Lay P]{c:Code}{args:List AV}{H:St}{o:Av->St->Prop}(e:List ResultVar){N:Nat}(hf:P.funcs[f]? =some fn)(h:AB P N [] c (O4 P e o) (cB 0 args) H)(hb:fn.body=some c:=by exact rfl)(g:fn.ntmps=N:=by exact rfl)
  (b:(fn.name == "runtime.NumGoroutine")=false:=by exact rfl) (a:Nat.ble args.length N=true:=by exact rfl) (d:fn.results=e.toArray:=by exact rfl):AQ P f args H o:=xM e hf hb g b a d h
def bW{s:AE}(h:lk? s t=some r:=by exact rfl):∃a,Av.ret (gK s [t]) = .ret a/\AC a r:=aP h (aG _)
def Fin.rb{s:AE}{r:Bool}(hr:b=r)(h:lk? s t=some (.bool b):=by exact rfl):∃a,Av.ret (gK s [t]) = .ret a/\AC a (.bool r):=aP h (AC.eq (congrArg AV.bool hr))
def aO{P:Program}[Lay P]{a:List ResultVar}{s:AE}{H:St}(h:resK? P s H a nK=some r:=by exact rfl):∃c,resK? P s H a nK=some c/\∃b,Av.ret c = .ret b/\AC b r:=aI h (aG _)
variable [AK] {P:Program} [Lay P] {N:Nat} {D:List Deferred} {c:Code} {K:AX->AE->St->Prop} {s:AE} {H:St} {α β:Type}
structure Nx(S:Nat->AE)(H:St)(k:Nat)(g:Prop)(s': AE)(σ': St):Prop where
 sub:Sub (S (k+1)) s'
 aa:aM H.B.length H.T.length (S (k+1))=true
 below:(aQ H.B.length H.T.length (σ'.B.take H.B.length)&&aL H.B.length H.T.length (σ'.T.take H.T.length))=true
 same:(⟨σ'.B.take H.B.length,σ'.T.take H.T.length⟩:St)=H
 inv:g
def Tx(L:List α)(E:α->AV){b:β}(G:Nat->List α->β)(S:Nat->AE)(hs:Sub (S 0) s)(h0:G 0 L=b)
  (cons:∀(k:Nat) (x:α) (r:List α),x∈L->(L.map E)[k]? =some (E x)->decide ((k:Int)<(L.length:Int))=true->k<L.length->G k (x::r)=b->AB P N D c (thn (Nx S H k (G (k+1) r=b)) K) (S k) H)
  (nil:decide ((L.length:Int)<(L.length:Int))=false->G L.length []=b->AB P N D c (thn (λ_ _=>False) K) (S L.length) H):AB P N D (.loop c) K s H:=by
 refine bK (hj:=by rw[drop_zero];exact h0) L.length S (λ_=>H) (λk=>G k (L.drop k)=b) hs λk hk hj=> ?_
 by_cases h1:k<L.length
 ·rw[drop_eq_getElem_cons h1]at hj;refine(cons k L[k] (L.drop (k+1)) (getElem_mem h1) Xg Xg h1 hj).mono λe s' σ' h=> ?_
  cases e with
  |normal=>exact⟨h1,h.sub,h.aa,h.below,h.same,h.inv⟩
  |exit id=>exact h
  |goto l=>exact h
  |ret=>exact h
  |pan x=>exact h
 ·obtain rfl:k=L.length:=om
  rw[List.drop_length]at hj;refine(nil Wa hj).mono λe s' σ' h=> ?_
  cases e with
  |normal=>exact absurd h id
  |exit id=>exact h
  |goto l=>exact h
  |ret=>exact h
  |pan x=>exact h
def mX{s:AE}{r:Bool}(h:lk? s t=some (.bool b):=by exact rfl)(hr:b=r:=by first|rfl|simp_all[-List.all_eq_true, -List.all_eq_false]):∃a,Av.ret (gK s [t]) = .ret a/\AC a (.bool r):=aP h (AC.eq (congrArg AV.bool hr))
structure Nz(S:Nat->AE)(Z:Nat->St)(J:Nat->Prop)(H:St)(k:Nat)(s': AE)(σ': St):Prop where
 sub:Sub (S (k+1)) s'
 aa:aM H.B.length H.T.length (S (k+1))=true
 below:(aQ H.B.length H.T.length (σ'.B.take H.B.length)&&aL H.B.length H.T.length (σ'.T.take H.T.length))=true
 same:(⟨σ'.B.take H.B.length,σ'.T.take H.T.length⟩:St)=Z (k+1)
 inv:J (k+1)
def fB(L:List α)(E:α->AV)(S:Nat->AE)(Z:Nat->St)(J:Nat->Prop)(h0:J 0)
  (cons:∀(k:Nat) (h:k<L.length),decide ((k:Int)<(L.length:Int))=true->(L.map E)[k]? =some (E L[k])->J k->AB P N D c (thn (Nz S Z J H k) K) (S k) (Z k))
  (nil:decide ((L.length:Int)<(L.length:Int))=false->J L.length->AB P N D c (thn (λ_ _=>False) K) (S L.length) (Z L.length))
  (hs:Sub (S 0) s:=by (repeat' first|exact trivial|refine⟨rfl, ?_⟩)) (hz:Z 0=H:=by exact rfl):AB P N D (.loop c) K s H:=by
 refine bK (hz:=hz) (hj:=h0) L.length S Z J hs λk hk hj=> ?_
 by_cases h1:k<L.length
 ·refine(cons k h1 Xg Xg hj).mono λe s' σ' h=> ?_
  cases e with
  |normal=>exact⟨h1,h.sub,h.aa,h.below,h.same,h.inv⟩
  |exit id=>exact h
  |goto l=>exact h
  |ret=>exact h
  |pan x=>exact h
 ·obtain rfl:k=L.length:=om
  refine(nil Wa hj).mono λe s' σ' h=> ?_
  cases e with
  |normal=>exact absurd h id
  |exit id=>exact h
  |goto l=>exact h
  |ret=>exact h
  |pan x=>exact h
def lZ(L:List α)(E:α->AV)(p:α->Bool)(S:Nat->AE)
  (cons:∀(k:Nat) (h:k<L.length),decide ((k:Int)<(L.length:Int))=true->(L.map E)[k]? =some (E L[k])->L[k]∈L->(p L[k]=false->L.all p=false)->AB P N D c (thn (Nx S H k (p L[k]=true)) K) (S k) H)
  (nil:decide ((L.length:Int)<(L.length:Int))=false->L.all p=true->AB P N D c (thn (λ_ _=>False) K) (S L.length) H)
  (hs:Sub (S 0) s:=by (repeat' first|exact trivial|refine⟨rfl, ?_⟩)):AB P N D (.loop c) K s H:=by
 refine bK (hj:=by simp) L.length S (λ_=>H) (λk=>(L.take k).all p=true) hs λk hk hj=> ?_
 by_cases h1:k<L.length
 ·refine(cons k h1 Xg Xg (getElem_mem h1) λh=>List.all_eq_false.2 ⟨_,getElem_mem h1,XD⟩).mono λe s' σ' h=> ?_
  cases e with
  |normal=>exact⟨h1,h.sub,h.aa,h.below,h.same,by rw[List.take_succ_eq_append_getElem h1,List.all_append,hj,List.all_cons,h.inv];rfl⟩
  |exit id=>exact h
  |goto l=>exact h
  |ret=>exact h
  |pan x=>exact h
 ·obtain rfl:k=L.length:=om
  rw[List.take_length]at hj;refine(nil Wa hj).mono λe s' σ' h=> ?_
  cases e with
  |normal=>exact absurd h id
  |exit id=>exact h
  |goto l=>exact h
  |ret=>exact h
  |pan x=>exact h
end Go.Av
namespace Go.Proofs.YtdodieljpcfpcaaGreatDoor
open Go Go.Av Go.Proofs.Tryz
variable [AK] {P:Program} [Lay P] {N:Nat} {s:AE} {H:St}
def pEn{args:List AV}{c:Code}(t:Nat)(hf:P.funcs[f]? =some fn)(h:AB P N [] c (fin [t] (λe _=>∃v,e = .ret v/\AC v r)) (cB 0 args) ⟨[],[]⟩)
  (hb:fn.body=some c:=by exact rfl) (g:fn.ntmps=N:=by exact rfl) (b:(fn.name == "runtime.NumGoroutine")=false:=by exact rfl) (a:Nat.ble args.length N=true:=by exact rfl) (d:fn.results=([t].map ResultVar.tmp).toArray:=by exact rfl)
  (O:r.K=true:=by (first|exact rfl|simp[-List.map_map,AV.K,aB,aR,b9,aT,b8,gF,dS,aZ,dT,AH.K,Ah.K,Af.K,AI.K,AR.K,Ae.K,As.K,Sl.K,AO.K,AM.K,Aj.K,Ag.K]))
  (ha:aB args=true:=by (first|exact rfl|simp[-List.map_map,AV.K,aB,aR,b9,aT,b8,gF,dS,aZ,dT,AH.K,Ah.K,Af.K,AI.K,AR.K,Ae.K,As.K,Sl.K,AO.K,AM.K,Aj.K,Ag.K])):AN P f args r:=
 AQ.plain O ha (AQ.enter [t] hf hb g b a d Wa h)
def pER{args:List AV}{c:Code}(g:List ResultVar)(hf:P.funcs[f]? =some fn)(h:AB P N [] c (O4 P g (λe _=>∃v,e = .ret v/\AC v r)) (cB 0 args) ⟨[],[]⟩)
  (hb:fn.body=some c:=by exact rfl) (i:fn.ntmps=N:=by exact rfl) (b:(fn.name == "runtime.NumGoroutine")=false:=by exact rfl) (a:Nat.ble args.length N=true:=by exact rfl) (d:fn.results=g.toArray:=by exact rfl)
  (O:r.K=true:=by (first|exact rfl|simp[-List.map_map,AV.K,aB,aR,b9,aT,b8,gF,dS,aZ,dT,AH.K,Ah.K,Af.K,AI.K,AR.K,Ae.K,As.K,Sl.K,AO.K,AM.K,Aj.K,Ag.K]))
  (ha:aB args=true:=by (first|exact rfl|simp[-List.map_map,AV.K,aB,aR,b9,aT,b8,gF,dS,aZ,dT,AH.K,Ah.K,Af.K,AI.K,AR.K,Ae.K,As.K,Sl.K,AO.K,AM.K,Aj.K,Ag.K])):AN P f args r:=
 AQ.plain O ha (xM g hf hb i b a d h)
def nx{S:Nat->AE}{k:Nat}{g:Prop}(a:g:=by simp_all[-List.all_eq_true, -List.all_eq_false])(hs:Av.Sub (S (k+1)) s':= by (repeat' first|exact trivial|refine⟨rfl, ?_⟩))
  (hb:aM H.B.length H.T.length (S (k+1))=true:=by simp[aM,AV.aa,aF,AI.K,Ag.K,Ah.K,AO.K,AR.K,Ae.K,Aj.K,Af.K,Sl.K,As.K,AM.K,aC,aR,aT,b9,b8,dT])
  (h3:(aQ H.B.length H.T.length (σ'.B.take H.B.length)&&aL H.B.length H.T.length (σ'.T.take H.T.length))=true:=by exact rfl) (h4:(⟨σ'.B.take H.B.length,σ'.T.take H.T.length⟩:St)=H:=by exact rfl):Nx S H k g s' σ':= ⟨hs,hb,h3,h4,a⟩
theorem nz{S:Nat->AE}{Z:Nat->St}{J:Nat->Prop}{k:Nat}(a:J (k+1):=by simp_all[-List.all_eq_true, -List.all_eq_false])(hs:Av.Sub (S (k+1)) s':= by (repeat' first|exact trivial|refine⟨rfl, ?_⟩))
  (hb:aM H.B.length H.T.length (S (k+1))=true:=by simp[-List.map_take, -List.map_map,aM,AV.aa,aF,AI.K,Ag.K,Ah.K,AO.K,AR.K,Ae.K,Aj.K,Af.K,Sl.K,As.K,AM.K,aC,aR,aT,b9,b8,dT])
  (h3:(aQ H.B.length H.T.length (σ'.B.take H.B.length)&&aL H.B.length H.T.length (σ'.T.take H.T.length))=true:=by first|exact rfl|simp[aQ,aL,Ob.aa,Tok.aa,aE,AV.aa]) (h4:(⟨σ'.B.take H.B.length,σ'.T.take H.T.length⟩:St)=Z (k+1):=by exact rfl):Nz S Z J H k s' σ':= ⟨hs,hb,h3,h4,a⟩
attribute [local irreducible] AB AD AN AQ Av.AS AZ
def o8(c:UInt8):Bool:=decide (48<=c.toNat)&&decide (c.toNat<=57)
def Ht(c:UInt8):Bool:=decide (97<=c.toNat)&&decide (c.toNat<=122)||decide (65<=c.toNat)&&decide (c.toNat<=90)||decide (c.toNat=95)
def QT(c:UInt8):AN prog 247 [.int .u8 (c.toNat:Int)] (.bool (o8 c)):=by
 refine pEn 2 func247 ?_
 repeat' first|refine .s1 ?_|(refine .q ?_ ?_<;>intro O)|fail
 all_goals
  refine Fin.rb ?_;unfold o8;rw[Bool.eq_iff_iff];simp at *; omega
def Ty(c:UInt8):AN prog 246 [.int .u8 (c.toNat:Int)] (.bool (Ht c)):=by
 refine pEn 2 func246 ?_
 repeat' first|refine .s1 ?_|(refine .q ?_ ?_<;>intro O)|fail
 all_goals
  refine Fin.rb ?_;unfold Ht;rw[Bool.eq_iff_iff];simp at *; omega
theorem gC{s:AF}{k:Nat}(h:k<s.length):s[k]? =some s[k]:=XD
def nmC:Bool->AF->Bool
 |_,[]=>true
 |z,c::r=>(Ht c||(!z&&o8 c))&&nmC false r
def lS(s:AF):Bool:=nmC true s&&decide (s≠[])
theorem wC{z:Bool}{s:AF}{k:Nat}(h:k<s.length):nmC z (s.drop k)=((Ht s[k]||(!z&&o8 s[k]))&&nmC false (s.drop (k+1))):=by rw[drop_eq_getElem_cons h,nmC]
def U3(s:AF)(hs:s.length<=9223372036854775806):AN prog 181 [.str s] (.bool (lS s)):=by
 refine pEn 2 func181 ?_;refine .go ?_;change AB _ _ _ _ _ _ _;refine AB.loop (λn b H=>∃k:Nat,n=s.length-k/\k<=s.length/\nmC true s=nmC (k==0) (s.drop k)/\H=⟨[],[]⟩/\
  b=[(6, .int .i64 k),(5, .int .i64 s.length),(0, .str s)])
  (s0:=[(6, .int .i64 (0:Nat)),(5, .int .i64 s.length),(0, .str s)])
  Z0 ⟨0,rfl,zero_le _,rfl,rfl,rfl⟩ ?_
 rintro n b H ⟨k,rfl,hk,hp,rfl,rfl⟩;by_cases h1:k<s.length
 ·have g:=ltT h1;have x1:=gC h1;have hl:=Ty s[k];have e:=QT s[k];by_cases a:Ht s[k]=true
  ·have e1:(!Ht s[k])=false:=by rw[a];rfl
   repeat' first|refine .s1 ?_|(refine .q ?_ ?_<;>intro O)|refine bJ ?_|refine aH hl ?_|refine aH e ?_|fail
   refine⟨s.length-(k+1),om,[(6, .int .i64 ((k+1:Nat):Int)),(5, .int .i64 s.length),(0, .str s)],Z0,Wg,rfl,k+1,rfl,om, ?_,rfl,rfl⟩;rw[hp,wC h1,a];rfl
  ·have e1:(!Ht s[k])=true:=by simpa using a
   by_cases c:k=0
   ·have h:((k:Int)==0)=true:=by simp[c]
    repeat' first|refine .s1 ?_|(refine .q ?_ ?_<;>intro O)|refine bJ ?_|refine aH hl ?_|refine aH e ?_|fail
    refine Fin.rb ?_;unfold lS;rw[hp,wC h1];subst c;simp[a]
   ·have h:((k:Int)==0)=false:=by simp[c]
    have f:=beF c;by_cases d:o8 s[k]=true
    ·have i:(!o8 s[k])=false:=by rw[d];rfl
     repeat' first|refine .s1 ?_|(refine .q ?_ ?_<;>intro O)|refine bJ ?_|refine aH hl ?_|refine aH e ?_|fail
     refine⟨s.length-(k+1),om,[(6, .int .i64 ((k+1:Nat):Int)),(5, .int .i64 s.length),(0, .str s)],Z0,Wg,rfl,k+1,rfl,om, ?_,rfl,rfl⟩;rw[hp,wC h1,f,d];simp
    ·have i:(!o8 s[k])=true:=by simpa using d
     repeat' first|refine .s1 ?_|(refine .q ?_ ?_<;>intro O)|refine bJ ?_|refine aH hl ?_|refine aH e ?_|fail
     refine Fin.rb ?_;unfold lS;rw[hp,wC h1,f];simp[a,d]
 ·have g:=ltF h1;refine .go ?_;refine Fin.rb ?_;unfold lS;rw[hp,drop_eq_nil_of_le om,nmC];cases s<;>simp
def eG:AF->Nat
 |[]=>0
 |c::s=>if o8 c=true then eG s+1 else 0
def jA:∀s:AF,eG s<=s.length
 |[]=>le_refl _
 |c::s=>by
  have:=jA s
  unfold eG;split<;>simp<;>omega
theorem DG{s:AF}{k:Nat}(h:k<s.length):eG (s.drop k)=if o8 s[k]=true then eG (s.drop (k+1))+1 else 0:=by rw[drop_eq_getElem_cons h,eG]
def Cn(s:AF)(hs:s.length<=9223372036854775806):AN prog 344 [.str s] (.int .i64 (eG s)):=by
 refine pEn 2 func344 ?_;refine .go ?_;change AB _ _ _ _ _ _ _;refine AB.loop (λn a H=>∃k:Nat,n=s.length-k/\k<=s.length/\eG s=k+eG (s.drop k)/\H=⟨[],[]⟩/\a=[(3, .int .i64 k),(0, .str s)])
  (s0:=[(3, .int .i64 (0:Nat)),(0, .str s)]) Z0 ⟨0,rfl,zero_le _,Wa,rfl,rfl⟩ ?_
 rintro n a H ⟨k,rfl,hk,hp,rfl,rfl⟩;by_cases h1:k<s.length
 ·have d:=ltT h1;have x1:=gC h1;have c:=QT s[k];by_cases b:o8 s[k]=true
  ·repeat' first|refine .s1 ?_|(refine .q ?_ ?_<;>intro O)|refine bJ ?_|refine aH c ?_|fail
   refine⟨s.length-(k+1),om,[(3, .int .i64 ((k+1:Nat):Int)),(0, .str s)],Z0,Wg,rfl,k+1,rfl,om, ?_,rfl,rfl⟩;rw[hp,DG h1,if_pos b];omega
  ·have e:o8 s[k]=false:=by simpa using b
   repeat' first|refine .s1 ?_|(refine .q ?_ ?_<;>intro O)|refine bJ ?_|refine aH c ?_|fail
   refine aP rfl (AC.eq (congrArg (AV.int .i64) ?_));rw[hp,DG h1,if_neg b];simp
 ·have d:=ltF h1;refine .go ?_;refine aP rfl (AC.eq (congrArg (AV.int .i64) ?_));rw[hp,drop_eq_nil_of_le om,eG];simp
def pfx(p s:AF):Bool:=decide (p.length<=s.length)&&(s.take p.length==p)
def RX(s p:AF):AN prog 348 [.str s, .str p] (.bool (pfx p s)):=by
 refine pEn 4 func348 ?_;by_cases h1:p.length<=s.length
 ·have a:decide ((s.length:Int)≥(p.length:Int))=true:=by simp;omega
  repeat' first|refine .s1 ?_|(refine .q ?_ ?_<;>intro O)|refine cR (hy:=rfl) 0 p.length ?_|fail
  refine Fin.rb ?_;simp[pfx,h1]
 ·have a:decide ((s.length:Int)≥(p.length:Int))=false:=by simp;omega
  refine .go ?_;refine Fin.rb ?_;simp[pfx,h1]
def Im(s p:AF):AN prog 343 [.str s, .str p] (.bool (pfx p s)):=by
 have h:=RX s p;refine pEn 4 func343 ?_;repeat' first|refine .s1 ?_|(refine .q ?_ ?_<;>intro O)|refine aH h ?_|fail
 exact bW
def iF(s:AF)(n:Nat):Nat:=if eG (s.drop n)=0 then 0 else if s[n]? =some 48 then n+1 else n+eG (s.drop n)
def bQ(s:AF):Nat:=if pfx [45] s=true then iF s 1 else iF s 0
def GA{s:AF}{n:Nat}(h:n<=s.length):iF s n<=s.length:=by have:=jA (s.drop n);rw[length_drop]at this;unfold iF;grind
def aAO{c:UInt8}{s:AF}(h:pfx [c] s=true):1<=s.length:=by grind[pfx]
def PK(s:AF):bQ s<=s.length:=by
 unfold bQ;split
 ·exact GA (aAO (by assumption))
 ·exact GA (zero_le _)
def aAP(s:AF)(hs:s.length<=9223372036854775806):AN prog 342 [.str s] (.int .i64 (bQ s)):=by
 refine pEn 2 func342 ?_;have hp:=Im s [45];by_cases c:pfx [45] s=true
 ·have hn:1<=s.length:=aAO c;have d:=Cn (s.drop 1) W6;have e:=jA (s.drop 1);rw[length_drop]at e;by_cases a:eG (s.drop 1)=0
  ·have f:((eG (s.drop 1):Int)==0)=true:=by rw[a];rfl
   repeat' first|refine .s1 ?_|(refine .q ?_ ?_<;>intro O)|refine aH hp ?_|refine cR 1 s.length ?_|refine aH d ?_|fail
   refine aP rfl (AC.eq (congrArg (AV.int .i64) ?_));rw[bQ,if_pos c,iF,if_pos a];rfl
  ·have f:((eG (s.drop 1):Int)==0)=false:=beq_eq_false_iff_ne.2 om;have hlt:1<s.length:=om
   have x1:=gC hlt;by_cases b:s[1]=48
   ·have g:((s[1].toNat:Int)==48)=true:=by rw[b];rfl
    repeat' first|refine .s1 ?_|(refine .q ?_ ?_<;>intro O)|refine aH hp ?_|refine cR 1 s.length ?_|refine aH d ?_|refine bJ (j:=1) ?_|fail
    refine aP rfl (AC.eq (congrArg (AV.int .i64) ?_));rw[bQ,if_pos c,iF,if_neg a,x1,if_pos (congrArg some b)];rfl
   ·have g:((s[1].toNat:Int)==48)=false:=by
     have:s[1].toNat≠48:=λh=>b (UInt8.toNat_inj.1 (h.trans rfl))
     simp;omega
    repeat' first|refine .s1 ?_|(refine .q ?_ ?_<;>intro O)|refine aH hp ?_|refine cR 1 s.length ?_|refine aH d ?_|refine bJ (j:=1) ?_|fail
    refine aP rfl (AC.eq (congrArg (AV.int .i64) ?_));rw[bQ,if_pos c,iF,if_neg a,x1,if_neg (λh=>b (Option.some.inj h))];omega
 ·have i:pfx [45] s=false:=by simpa using c
  have d:=Cn s hs;have e:=jA s;by_cases a:eG s=0
  ·have f:((eG s:Int)==0)=true:=by simp[a]
   repeat' first|refine .s1 ?_|(refine .q ?_ ?_<;>intro O)|refine aH hp ?_|refine cR (hy:=XM) 0 s.length ?_|refine aH d ?_|fail
   refine aP rfl (AC.eq (congrArg (AV.int .i64) ?_));rw[bQ,if_neg c,iF,drop_zero,if_pos a];rfl
  ·have f:((eG s:Int)==0)=false:=by simp[a]
   have hlt:0<s.length:=om
   have x1:=gC hlt;by_cases b:s[0]=48
   ·have g:((s[0].toNat:Int)==48)=true:=by rw[b];rfl
    repeat' first|refine .s1 ?_|(refine .q ?_ ?_<;>intro O)|refine aH hp ?_|refine cR (hy:=XM) 0 s.length ?_|refine aH d ?_|refine bJ (j:=0) ?_|fail
    refine aP rfl (AC.eq (congrArg (AV.int .i64) ?_));rw[bQ,if_neg c,iF,drop_zero,if_neg a,x1,if_pos (congrArg some b)];rfl
   ·have g:((s[0].toNat:Int)==48)=false:=by
     have:s[0].toNat≠48:=λh=>b (UInt8.toNat_inj.1 (h.trans rfl))
     simp;omega
    repeat' first|refine .s1 ?_|(refine .q ?_ ?_<;>intro O)|refine aH hp ?_|refine cR (hy:=XM) 0 s.length ?_|refine aH d ?_|refine bJ (j:=0) ?_|fail
    refine aP rfl (AC.eq (congrArg (AV.int .i64) ?_));rw[bQ,if_neg c,iF,drop_zero,if_neg a,x1,if_neg (λh=>b (Option.some.inj h))];omega
def GB(s:AF)(n:Nat):Nat:=if eG (s.drop n)=0 then 0 else n+eG (s.drop n)
def rG(s:AF):Nat:=
 if (s.getD 0 0).toNat=101\/(s.getD 0 0).toNat=69 then
  (if 1<s.length/\((s.getD 1 0).toNat=43\/(s.getD 1 0).toNat=45) then GB s 2 else GB s 1)
 else 0
def K4{s:AF}{n:Nat}(h:n<=s.length):GB s n<=s.length:=by have:=jA (s.drop n);rw[length_drop]at this;unfold GB;grind
def JA(s:AF):rG s<=s.length:=by
 unfold rG;split
 ·have h:1<=s.length:=by
   cases s with
   |nil=>simp_all
   |cons c s=>simp
  split
  ·exact K4 om
  ·exact K4 h
 ·omega
theorem JB{s:AF}{k:Nat}(h:k<s.length):s.getD k 0=s[k]:=WN
def MP(s:AF)(hs:s.length<=9223372036854775806):AN prog 345 [.str s] (.int .i64 (rG s)):=by
 refine pEn 2 func345 ?_;by_cases h0:s.length=0
 ·obtain rfl:=List.eq_nil_of_length_eq_zero h0;refine .go ?_;refine aP rfl (AC.eq (congrArg (AV.int .i64) ?_));rfl
 ·have a:0<s.length:=om
  have h:(s==[])=false:=by cases s<;>simp_all
  have x0:=gC a;have b:=Cn (s.drop 1) W6;have c:=jA (s.drop 1);rw[length_drop]at c;have g0:=JB a;by_cases h1:1<s.length
  ·have x1:=gC h1;have g:=JB h1;have f:decide ((s.length:Int)>1)=true:=by simp;omega
   have e:=Cn (s.drop 2) W6;have d:=jA (s.drop 2);rw[length_drop]at d;repeat' first|refine .s1 ?_|(refine .q ?_ ?_<;>intro O)|refine bJ (j:=0) ?_|refine bJ (j:=1) ?_|refine cR 1 s.length ?_|refine cR 2 s.length ?_|refine aH b ?_|refine aH e ?_|fail
   all_goals
    refine aP rfl (AC.eq (congrArg (AV.int .i64) ?_));unfold rG GB;rw[g0,g];simp[-List.drop_one]at *;(repeat' split)<;>omega
  ·have f:decide ((s.length:Int)>1)=false:=by simp;omega
   repeat' first|refine .s1 ?_|(refine .q ?_ ?_<;>intro O)|refine bJ (j:=0) ?_|refine cR 1 s.length ?_|refine aH b ?_|fail
   all_goals
    refine aP rfl (AC.eq (congrArg (AV.int .i64) ?_));unfold rG GB;rw[g0];simp[-List.drop_one]at *;(repeat' split)<;>omega
end Go.Proofs.YtdodieljpcfpcaaGreatDoor
namespace Go.Av
open Go
section
variable [AK]
variable {P:Program} {A:Array Oper} {G:Bool} {K:AX->AE->St->Prop} {C:List Oper} {I:List Ak} {s:AE} {H:St} {R:TypeId} {D:String} {S:Array Edge}
def EL{c:Array (String×TypeId)}(h:P.underlying T=some (.interface c)){u:Value}(a:(u = .nilIface/\b=true)\/(∃t v,u = .iface t v)/\b=false)(n:Nat)(w:World):(Op.equalIn (n+1) T u .nilIface).run P w = .ok b w:=Xk
def Og[Lay P]{d:Tmp}{x:Operand}{v:AV}{j:TI}(hT:ty? P T=some j)(hk:j.kind = .iface)(Y:ev? s x=some v)(hv:(match v with | .nili=>some true | .iface _ _=>some false|_=>none)=some b)(k:AD P A G K C (.pure::I) ((d, .bool b)::s) H):
  AD P A G K (⟨some d, .binOp .eql T x (.const .nilIface) U,R,D,S,none⟩::C) I s H:=
 bT rfl (eZ λg w a m=>by
  have h1:=op1 Y Wd m;obtain⟨h,c,z0,t1,t2,i,n,_⟩:=(eK hT).ex;have l:∃ms,c = .interface ms:=Yp
  obtain⟨ms,rfl⟩:=l;have f:a.eval (.const .nilIface) = .nilIface:=rfl;refine⟨.bool b, ?_,rfl⟩;cases v with
  |nili=>cases hv;have e:a.eval x = .nilIface:=h1;have h3:(Op.equal T .nilIface .nilIface).run P w = .ok true w:=EL t2 (.inl ⟨rfl,rfl⟩) 9999 w;simp[execOp,e,f,eqGuard,Go.binOp,h3,Result.andThen]
  |iface t v=>cases hv;obtain⟨u,e,_⟩:=h1;have h3:(Op.equal T (.iface t u) .nilIface).run P w = .ok false w:=EL t2 (.inr ⟨⟨t,u,rfl⟩,rfl⟩) 9999 w;simp[execOp,e,f,eqGuard,Go.binOp,h3,Result.andThen]
  |_=>cases hv) k
end
end Go.Av
namespace Go.Proofs.YtdodieljpcfpcaaGreatDoor
open Go Go.Av Go.Proofs.Tryz
def cI{t1 t2:Nat}{s:AE}{v1 v2 r:AV}(hw:AC (.tup [v1,v2]) r)(h1:lk? s t1=some v1:=by exact rfl)(h2:lk? s t2=some v2:=by exact rfl):∃a,Av.ret (gK s [t1,t2]) = .ret a/\AC a r:=
 ⟨_,rfl,by rw[show gK s [t1,t2] = .tup [v1,v2] by unfold gK;simp only[List.map_cons,List.map_nil,g9 h1,g9 h2]];exact hw⟩
def K5(s:AF):Int:=match Lib.parseIntB 64 s with
 | .ok v=>v
 | .range=>Lib.intSat 64 s
 |_=>0
def C5(s:AF):Bool:=match Lib.parseIntB 64 s with
 | .ok _=>true
 |_=>false
def wP(s:AF):AV:=match Lib.parseIntB 64 s with
 | .ok _ => .nili
 |_ => .iface 397 .undef
def Ud(s:AF)(hs:s.length<=281474976710656):AN prog 341 [.str s, .int .i64 10, .int .i64 64] (.tup [.int .i64 (K5 s),wP s]):=by
 refine y5 ⟨_,func341,rfl,rfl⟩ rfl (λim w J l b hl=> ?_);obtain⟨v,C,e,hv,q,i,u,f,r,a,y,h,hr⟩:=hl;have o:v = .string ⟨s.toArray⟩:=hv;have j:q = .int .i64 10:=f;have k:r = .int .i64 64:=h;have m:a=[]:=hr;obtain rfl:J = #[.string ⟨s.toArray⟩, .int .i64 10, .int .i64 64]:=by cases J;simp_all
 have n:(⟨s.toArray⟩:ByteArray).size=s.length:=XF
 have c:=Aq.a1 (g:=⟨[],[],im⟩) b (p:=(5, .iface 406 .undef)) (.tail _ (.tail _ (.tail _ (.head _))));have d:=Aq.a1 (g:=⟨[],[],im⟩) b (p:=(6, .iface 406 .undef)) (.tail _ (.tail _ (.tail _ (.tail _ (.head _)))));obtain⟨z,c⟩:=Kk c;obtain⟨u6,d⟩:=Kk d;cases hp:Lib.parseIntB 64 s with
 |ok x=>
  refine(nH ⟨s.toArray⟩ om x hp w).mono ?_;rintro e w' ⟨rfl,hb⟩;refine⟨⟨_,rfl, ?_⟩, ?_⟩
  ·unfold K5 wP;rw[hp];exact⟨_,rfl,_,_,rfl,rfl,_,_,rfl,rfl,rfl⟩
  ·rcases hb with rfl|⟨t,rfl⟩
   ·exact Go.RowKit.Below.refl _ _
   ·exact Lib.bytesWorld_below _ _ _
 |range=>refine(lW ⟨s.toArray⟩ om hp _ w d (.inr ⟨_,_,rfl⟩)).mono ?_;rintro e w' ⟨N,rfl,_,_,hb⟩;refine⟨⟨_,rfl, ?_⟩,hb⟩;unfold K5 wP;rw[hp];exact⟨_,rfl,_,_,rfl,rfl,_,_,rfl,⟨_,rfl,trivial⟩,rfl⟩
 |_=>refine(mU ⟨s.toArray⟩ om (by simp only[hp]) _ w c (.inr ⟨_,_,rfl⟩)).mono ?_;rintro e w' ⟨N,rfl,_,_,hb⟩;refine⟨⟨_,rfl, ?_⟩,hb⟩;unfold K5 wP;rw[hp];exact⟨_,rfl,_,_,rfl,rfl,_,_,rfl,⟨_,rfl,trivial⟩,rfl⟩
attribute [local irreducible] AB AD AN AQ Av.AS AZ
def C6(s:AF)(n:Nat):Nat×Int:=if pfx [46] (s.drop n)=true then (if eG (s.drop (n+1))=0 then (n,3) else (n+1+eG (s.drop (n+1)),4)) else (n,3)
def zN(s:AF):Nat×Int:=if bQ s=0 then (0,0) else if rG (s.drop (C6 s (bQ s)).1)=0 then C6 s (bQ s) else ((C6 s (bQ s)).1+rG (s.drop (C6 s (bQ s)).1),4)
def Ue(s:AF)(hs:s.length<=4611686018427387904):AN prog 340 [.str s] (.tup [.int .i64 (zN s).1, .int .i64 (zN s).2]):=by
 refine AQ.plain rfl rfl (cK [2,3] func340 ?_);have hw:=aAP s om;have m:=PK s;unfold zN;by_cases g:bQ s=0
 ·have k:((bQ s:Int)==0)=true:=by rw[g];rfl
  repeat' first|refine .s1 ?_|(refine .q ?_ ?_<;>intro O)|refine aH hw ?_|fail
  refine cI (AC.eq ?_);rw[if_pos g];rfl
 ·have k:((bQ s:Int)==0)=false:=beq_eq_false_iff_ne.2 om;have hp:=Im (s.drop (bQ s)) [46];rw[if_neg g];unfold C6;by_cases e:pfx [46] (s.drop (bQ s))=true
  ·rw[if_pos e];have hlt:=aAO e;rw[length_drop]at hlt;have f:=Cn (s.drop (bQ s+1)) W6;have h:=jA (s.drop (bQ s+1));rw[length_drop]at h;by_cases i:eG (s.drop (bQ s+1))=0
   ·rw[if_pos i];have l:decide ((eG (s.drop (bQ s+1)):Int)>0)=false:=by simp only[decide_eq_false_iff_not];omega
    have c:=MP (s.drop (bQ s)) W6;have a:=JA (s.drop (bQ s));rw[length_drop]at a;by_cases b:rG (s.drop (bQ s))=0
    ·have d:decide ((rG (s.drop (bQ s)):Int)>0)=false:=by simp only[decide_eq_false_iff_not];omega
     repeat' first|refine .s1 ?_|(refine .q ?_ ?_<;>intro O)|refine aH hw ?_|refine cR (bQ s) s.length ?_|refine cR (bQ s+1) s.length ?_|refine aH hp ?_|refine aH f ?_|refine aH c ?_|fail
     refine cI (AC.eq ?_);rw[if_pos b]
    ·have d:decide ((rG (s.drop (bQ s)):Int)>0)=true:=by simp only[decide_eq_true_eq];omega
     repeat' first|refine .s1 ?_|(refine .q ?_ ?_<;>intro O)|refine aH hw ?_|refine cR (bQ s) s.length ?_|refine cR (bQ s+1) s.length ?_|refine aH hp ?_|refine aH f ?_|refine aH c ?_|fail
     refine cI (AC.eq ?_);rw[if_neg b];rfl
   ·rw[if_neg i];have l:decide ((eG (s.drop (bQ s+1)):Int)>0)=true:=by simp only[decide_eq_true_eq];omega
    have c:=MP (s.drop (bQ s+1+eG (s.drop (bQ s+1)))) W6;have a:=JA (s.drop (bQ s+1+eG (s.drop (bQ s+1))));rw[length_drop]at a;by_cases b:rG (s.drop (bQ s+1+eG (s.drop (bQ s+1))))=0
    ·have d:decide ((rG (s.drop (bQ s+1+eG (s.drop (bQ s+1)))):Int)>0)=false:=by simp only[decide_eq_false_iff_not];omega
     repeat' first|refine .s1 ?_|(refine .q ?_ ?_<;>intro O)|refine aH hw ?_|refine cR (bQ s) s.length ?_|refine cR (bQ s+1) s.length ?_|refine cR (bQ s+1+eG (s.drop (bQ s+1))) s.length ?_|refine aH hp ?_|refine aH f ?_|refine aH c ?_|fail
     refine cI (AC.eq ?_);rw[if_pos b];rfl
    ·have d:decide ((rG (s.drop (bQ s+1+eG (s.drop (bQ s+1)))):Int)>0)=true:=by simp only[decide_eq_true_eq];omega
     repeat' first|refine .s1 ?_|(refine .q ?_ ?_<;>intro O)|refine aH hw ?_|refine cR (bQ s) s.length ?_|refine cR (bQ s+1) s.length ?_|refine cR (bQ s+1+eG (s.drop (bQ s+1))) s.length ?_|refine aH hp ?_|refine aH f ?_|refine aH c ?_|fail
     refine cI (AC.eq ?_);rw[if_neg b];rfl
  ·rw[if_neg e];have j:pfx [46] (s.drop (bQ s))=false:=by simpa using e
   have c:=MP (s.drop (bQ s)) W6;have a:=JA (s.drop (bQ s));rw[length_drop]at a;by_cases b:rG (s.drop (bQ s))=0
   ·have d:decide ((rG (s.drop (bQ s)):Int)>0)=false:=by simp only[decide_eq_false_iff_not];omega
    repeat' first|refine .s1 ?_|(refine .q ?_ ?_<;>intro O)|refine aH hw ?_|refine cR (bQ s) s.length ?_|refine aH hp ?_|refine aH c ?_|fail
    refine cI (AC.eq ?_);rw[if_pos b]
   ·have d:decide ((rG (s.drop (bQ s)):Int)>0)=true:=by simp only[decide_eq_true_eq];omega
    repeat' first|refine .s1 ?_|(refine .q ?_ ?_<;>intro O)|refine aH hw ?_|refine cR (bQ s) s.length ?_|refine aH hp ?_|refine aH c ?_|fail
    refine cI (AC.eq ?_);rw[if_neg b];rfl
def m6(s:AF):Int:=if (zN s).1=s.length then (zN s).2 else 0
def Oh(s:AF)(hs:s.length<=4611686018427387904):AN prog 335 [.str s] (.int .i64 (m6 s)):=by
 refine pEn 2 func335 ?_;have hn:=Ue s hs;unfold m6;by_cases c:(zN s).1=s.length
 ·have e:(((zN s).1:Int) != (s.length:Int))=false:=by rw[c];simp
  repeat' first|refine .s1 ?_|(refine .q ?_ ?_<;>intro O)|refine aH hn ?_|fail
  refine aP rfl (AC.eq ?_);simp_all
 ·have e:(((zN s).1:Int) != (s.length:Int))=true:=by simp;omega
  repeat' first|refine .s1 ?_|(refine .q ?_ ?_<;>intro O)|refine aH hn ?_|fail
  refine aP rfl (AC.eq ?_);simp_all
def aAQ(s:AF)(hs:s.length<=281474976710656):AN prog 336 [.str s] (.tup [.int .i64 (K5 s), .bool (C5 s&&(m6 s==3))]):=by
 refine AQ.plain rfl rfl (cK [2,3] func336 ?_);have hn:=Oh s om;have hp:=Ud s hs;by_cases c:C5 s=true
 ·have e:wP s = .nili:=by unfold C5 at c;unfold wP;grind
  rw[e]at hp;repeat' first|refine .s1 ?_|(refine .q ?_ ?_<;>intro O)|refine aH hp ?_|refine aH hn ?_|refine Og rfl rfl rfl rfl ?_|fail
  refine cI (AC.eq ?_);rw[c];rfl
 ·have e:wP s = .iface 397 .undef:=by unfold C5 at c;unfold wP;grind
  have a:C5 s=false:=WY
  rw[e]at hp;repeat' first|refine .s1 ?_|(refine .q ?_ ?_<;>intro O)|refine aH hp ?_|refine aH hn ?_|refine Og rfl rfl rfl rfl ?_|fail
  refine cI (AC.eq ?_);rw[a];rfl
def RY(s:AF):Bool:=m6 s==4||m6 s==3 && !(C5 s&&(m6 s==3))
def aDi(s:AF)(hs:s.length<=281474976710656):AN prog 316 [.str s] (.bool (RY s)):=by
 refine pEn 2 func316 ?_;have hn:=Oh s om;have hw:=aAQ s hs;unfold RY;repeat' first|refine .s1 ?_|(refine .q ?_ ?_<;>intro O)|refine aH hn ?_|refine aH hw ?_|fail
 all_goals
  refine Fin.rb ?_;simp_all
def Uf(s:AF):Bool:=s==[116,114,117,101]||s==[102,97,108,115,101]||s==[110,117,108,108]
def PL(s:AF):AN prog 317 [.str s] (.bool (Uf s)):=by
 refine pEn 2 func317 ?_;unfold Uf;repeat' first|refine .s1 ?_|(refine .q ?_ ?_<;>intro O)|fail
 all_goals
  refine Fin.rb ?_;simp_all
def fT(s:AF):Bool:=Lib.validD s
def K6(s:AF)(hs:s.length<=9223372036854775807):AN prog 296 [.str s] (.bool (fT s)):=by
 refine y5 ⟨_,func296,rfl,rfl⟩ rfl (λim w J d a hl=> ?_);obtain⟨v,C,e,hv,hr⟩:=hl;have c:v = .string ⟨s.toArray⟩:=hv;have b:C=[]:=hr;subst c;subst b;obtain rfl:J = #[.string ⟨s.toArray⟩]:=by cases J;simp_all
 have h3:=Aq.a1 (g:=⟨[],[],im⟩) a (p:=(0, .agg (Lib.firstTab.map (AV.int .u8)))) (.head _);have h4:=Aq.a1 (g:=⟨[],[],im⟩) a (p:=(1, .agg (vY.map (AV.int .u8)))) (.tail _ (.head _));refine(vE ⟨s.toArray⟩ w (by simpa [ByteArray.size]using hs) (Pa h3 h4)).mono ?_;rintro e w' ⟨rfl,hb⟩;exact⟨⟨_,rfl,rfl⟩,hb⟩
def Vg(s:AF)(hs:s.length<=9223372036854775807):AN prog 249 [.str s] (.bool (fT s)):=by
 have hv:=K6 s hs;refine pEn 2 func249 ?_
 repeat' first|refine .s1 ?_|(refine .q ?_ ?_<;>intro O)|refine aH hv ?_|fail
 exact bW
def RZ(k n:Int)(s:AF)(xs ys:List AV)(t1 t2:Tk)(Y:(AV.slice xs t1).K=true)(hy:(AV.slice ys t2).K=true):
  AN prog 295 [.agg [.int .i64 k, .int .i64 n, .str s, .slice xs t1, .slice ys t2]] (.bool (n==0&&s==[]&&decide (xs.length=0)&&decide (ys.length=0))):=by
 refine pEn 2 func295 (ha:=by simp only[aB,AV.K]at Y hy ⊢; rw[Y,hy];rfl) ?_
 repeat' first|refine dB ?_|refine .s1 ?_|(refine .q ?_ ?_<;>intro O)|fail
 all_goals
  refine Fin.rb ?_;rw[Bool.eq_iff_iff];simp_all
def lL(v:AH):Bool:=decide (v.l.length=0)&&decide (v.m.length=0)&&
 (if v.kind=0 then v.n==0&&v.s==[] else if v.kind=1 then (v.n==0||v.n==1)&&v.s==[] else if v.kind=2 then v.s==[] else if v.kind=3 then v.n==0&&RY v.s
  else if v.kind=4 then v.n==0&&fT v.s else if v.kind=5 then v.n==0&&lS v.s && !Uf v.s else if v.kind=8 then v.n==0&&lS v.s else false)
def Ug(v:AH)(hv:v.s.length<=68719476736):AN prog 294 [v.C] (.bool (lL v)):=by
 refine pEn 2 func294 ?_;have hb:=RZ v.kind 0 [] v.lv v.mv .no .no Zt Zs;have h3:=aDi v.s om;have h4:=Vg v.s om;have d:=U3 v.s om;have e:=PL v.s;rw[v.ba,v.bl]at hb;have h0:((0:Int)==0&&([]:AF)==[]&&decide (v.l.length=0)&&decide (v.m.length=0))=(decide (v.l.length=0)&&decide (v.m.length=0)):=Wa
 rw[h0]at hb;unfold lL;by_cases b:(decide (v.l.length=0)&&decide (v.m.length=0))=true
 ·have c:(!(decide (v.l.length=0)&&decide (v.m.length=0)))=false:=by rw[b];rfl
  rw[b]
  repeat' first|refine dB ?_|refine .s1 ?_|(refine .q ?_ ?_<;>intro O)|refine aH hb ?_|refine aH h3 ?_|refine aH h4 ?_|refine aH d ?_|refine aH e ?_|fail
  all_goals
   refine Fin.rb ?_;simp_all
 ·have a:(decide (v.l.length=0)&&decide (v.m.length=0))=false:=by simpa using b
  have c:(!(decide (v.l.length=0)&&decide (v.m.length=0)))=true:=WD
  rw[a]
  repeat' first|refine dB ?_|refine .s1 ?_|(refine .q ?_ ?_<;>intro O)|refine aH hb ?_|fail
  refine Fin.rb ?_;rfl
def Oi:∀ {l:List AH} {x:AH},l6 l->x∈l->x.ok
 |v::l,x,h,Y=>by
  rw[l6]at h
  cases Y with
  |head=>exact h.1
  |tail _ Y=>exact Oi h.2 Y
def Oj:∀ {l:List AG} {x:AG},l9 l->x∈l->x.v.ok
 | .mk _ v::l,x,h,Y=>by
  rw[l9]at h
  cases Y with
  |head=>exact h.1
  |tail _ Y=>exact Oj h.2 Y
def Uh{v:AH}(h:v.ok){x:AH}(Y:x∈v.l):x.ok:=by cases v;rw[AH.ok]at h;exact Oi h.2.2.1 Y
def Ui{v:AH}(h:v.ok){x:AG}(Y:x∈v.m):x.v.ok:=by cases v;rw[AH.ok]at h;exact Oj h.2.2.2 Y
def Ok{v:AH}(h:v.ok) : -9223372036854775808<=v.n/\v.n<=9223372036854775807:=by cases v;rw[AH.ok]at h;have:=h.2.1;unfold Lit.wf IntKind.min IntKind.max at this;rw[Bool.and_eq_true,decide_eq_true_eq,decide_eq_true_eq]at this;exact⟨this.1,this.2⟩
mutual
def rH:AH->Prop
 | .mk k n s l m=>s.length<=68719476736/\l.length<=68719476736/\m.length<=68719476736/\JC l/\PM m
def JC:List AH->Prop
 |[]=>True
 |v::l=>rH v/\JC l
def PM:List AG->Prop
 |[]=>True
 | .mk n v::l=>n.length<=68719476736/\rH v/\PM l
end
theorem GC:∀ {l:List AH},JC l↔∀x∈l,rH x
 |[]=>by simp[JC]
 |v::l=>by rw[JC,GC];simp
theorem K7:∀ {l:List AG},PM l↔∀x∈l,x.name.length<=68719476736/\rH x.v
 |[]=>by simp[PM]
 | .mk n v::l=>by rw[PM,K7];simp only[List.forall_mem_cons,and_assoc];rfl
def lU{v:AH}:rH v↔v.s.length<=68719476736/\v.l.length<=68719476736/\v.m.length<=68719476736/\(∀x∈v.l,rH x)/\∀x∈v.m,x.name.length<=68719476736/\rH x.v:=by cases v;rw[rH,GC,K7];rfl
def aAR:∀(n:Nat) (v:AH),v.size<=n->n<=68719476736->rH v:=λn=>by
 induction n using Nat.strongRecOn with
 |ind n E=>
  intro v hv hn
  have e:=v.ax
  have h1:=v.bu
  have h2:=v.b3
  refine lU.2 ⟨om,om,om,λx Y=> ?_,λx Y=> ?_⟩
  ·obtain⟨k,hk,rfl⟩:=List.getElem_of_mem Y
   have:=dI hk
   exact E _ om _ (le_refl _) om
  ·obtain⟨k,hk,rfl⟩:=List.getElem_of_mem Y
   have h3:=dP hk
   have h4:=aN (size:=AG.size) (getElem_mem hk)
   have a:v.m[k].size=v.m[k].name.length+2+v.m[k].v.size:=rfl
   exact⟨om,E _ om _ (le_refl _) om⟩
def DR{v:AH}(h:v.size<=68719476736):rH v:=aAR _ v (le_refl _) h
def Ad(v:AH):Prop:=rH v/\v.ok
theorem Ad.l{v:AH}(h:Ad v){x:AH}(Y:x∈v.l):Ad x:=⟨(lU.1 h.1).2.2.2.1 x Y,Uh h.2 Y⟩
theorem Ad.m{v:AH}(h:Ad v){x:AG}(Y:x∈v.m):x.name.length<=68719476736/\Ad x.v:=⟨((lU.1 h.1).2.2.2.2 x Y).1,((lU.1 h.1).2.2.2.2 x Y).2,Ui h.2 Y⟩
section
variable (g:AF->Bool)
mutual
def g7:AH->Bool
 | .mk k n s l m=>if k=6 then yM l&&(n==0&&s==[]&&decide (m.length=0)) else if k=7 then C7 m&&(n==0&&s==[]&&decide (l.length=0)) else lL (.mk k n s l m)
def yM:List AH->Bool
 |[]=>true
 |v::l=>g7 v&&yM l
def C7:List AG->Bool
 |[]=>true
 | .mk n v::l=>(g n&&g7 v)&&C7 l
end
theorem lM(v:AH):g7 g v=if v.kind=6 then yM g v.l&&(v.n==0&&v.s==[]&&decide (v.m.length=0)) else if v.kind=7 then C7 g v.m&&(v.n==0&&v.s==[]&&decide (v.l.length=0)) else lL v:=by cases v;rw[g7];rfl
theorem DS{l:List AH}{k:Nat}(h:k<l.length):yM g (l.drop k)=(g7 g l[k]&&yM g (l.drop (k+1))):=by rw[drop_eq_getElem_cons h,yM]
theorem x7{l:List AG}{k:Nat}(h:k<l.length):C7 g (l.drop k)=((g l[k].name&&g7 g l[k].v)&&C7 g (l.drop (k+1))):=by rw[drop_eq_getElem_cons h];cases l[k];rw[C7];rfl
end
def K8{v:AH}{k:Nat}(h:k<v.m.length):v.m[k].name.length<=v.size:=WT
def aCP(F:FuncId)(g:AF->Bool)(hF:∀s:AF,s.length<=68719476736->AN prog F [.str s] (.bool (g s))):∀N:Nat,∀v:AH,v.size<=N->rH v->AN prog 248 [v.C, .fn (.func F) [] []] (.bool (g7 g v))
 |0,v,hv,_=>absurd hv Xp
 |N+1,v,hv,ht=>by
  have E:=aCP F g hF N
  have ht:=lU.1 ht
  refine pEn 4 func248 ?_
  rw[lM]
  by_cases b:v.kind=6
  ·have i:(v.kind==6)=true:=by rw[b];rfl
   rw[if_pos b]
   have hb:=RZ v.kind v.n v.s [] v.mv .nil .no rfl Zs
   rw[v.bl]at hb
   repeat' first|refine dB ?_|refine .s1 ?_|(refine .q ?_ ?_<;>intro O)|fail
   change AB _ _ _ _ _ _ _
   refine AB.loop (λn s H=>∃k:Nat,n=v.l.length-k/\k<=v.l.length/\yM g v.l=yM g (v.l.drop k)/\H=⟨[Ob.cells [.int .i64 v.kind, .int .i64 v.n, .str v.s, .slice [] .nil, .slice v.mv .no]],[]⟩/\
    s=[(22, .int .i64 k),(21, .int .i64 v.lv.length),(20, .slice v.lv .no),(6, .bool true),(5, .ptr 0 0),(1, .fn (.func F) [] [])])
    (s0:=[(22, .int .i64 (0:Nat)),(21, .int .i64 v.lv.length),(20, .slice v.lv .no),(6, .bool true),(5, .ptr 0 0),(1, .fn (.func F) [] [])])
    Z0 ⟨0,rfl,zero_le _,rfl,rfl,rfl⟩ ?_
   rintro n s H ⟨k,rfl,hk,hp,rfl,rfl⟩
   by_cases h1:k<v.l.length
   ·have h:decide ((k:Int)<(v.lv.length:Int))=true:=by rw[v.ba];simp[h1]
    have x1:=lK h1
    have O:=E v.l[k] Zm (ht.2.2.2.1 _ (getElem_mem h1))
    by_cases c:g7 g v.l[k]=true
    ·have e1:(!g7 g v.l[k])=false:=by rw[c];rfl
     repeat' first|refine .s1 ?_|(refine .q ?_ ?_<;>intro O)|refine aH O ?_|fail
     refine⟨v.l.length-(k+1),om,[(22, .int .i64 ((k+1:Nat):Int)),(21, .int .i64 v.lv.length),(20, .slice v.lv .no),(6, .bool true),(5, .ptr 0 0),(1, .fn (.func F) [] [])],
      ⟨rfl,rfl,rfl,congrArg AV.bool c,rfl,rfl,trivial⟩,by simp[aM,AV.aa,aE,mK],by simp[aQ,aL,Ob.aa,AV.aa,aE,mL],k+1,rfl,om,by rw[hp,DS g h1,c];rfl,rfl,rfl⟩
    ·have a:g7 g v.l[k]=false:=by simpa using c
     have e1:(!g7 g v.l[k])=true:=WD
     repeat' first|refine .s1 ?_|(refine .q ?_ ?_<;>intro O)|refine aH O ?_|fail
     refine Fin.rb ?_
     rw[hp,DS g h1,a];rfl
   ·have h:decide ((k:Int)<(v.lv.length:Int))=false:=by rw[v.ba];simp;omega
    repeat' first|refine .s1 ?_|(refine .q ?_ ?_<;>intro O)|refine aH hb ?_|fail
    refine Fin.rb ?_
    rw[hp,drop_eq_nil_of_le om,yM]
    simp
  ·have i:=beF b
   rw[if_neg b]
   by_cases d:v.kind=7
   ·have j:(v.kind==7)=true:=by rw[d];rfl
    rw[if_pos d]
    have hb:=RZ v.kind v.n v.s v.lv [] .no .nil Zt rfl
    rw[v.ba]at hb
    repeat' first|refine dB ?_|refine .s1 ?_|(refine .q ?_ ?_<;>intro O)|fail
    change AB _ _ _ _ _ _ _
    refine AB.loop (λn s H=>∃k:Nat,n=v.m.length-k/\k<=v.m.length/\C7 g v.m=C7 g (v.m.drop k)/\H=⟨[Ob.cells [.int .i64 v.kind, .int .i64 v.n, .str v.s, .slice v.lv .no, .slice [] .nil]],[]⟩/\
     s=[(38, .int .i64 k),(37, .int .i64 v.mv.length),(36, .slice v.mv .no),(6, .bool true),(5, .ptr 0 0),(1, .fn (.func F) [] [])])
     (s0:=[(38, .int .i64 (0:Nat)),(37, .int .i64 v.mv.length),(36, .slice v.mv .no),(6, .bool true),(5, .ptr 0 0),(1, .fn (.func F) [] [])])
     Z0 ⟨0,rfl,zero_le _,rfl,rfl,rfl⟩ ?_
    rintro n s H ⟨k,rfl,hk,hp,rfl,rfl⟩
    by_cases h1:k<v.m.length
    ·have h:decide ((k:Int)<(v.mv.length:Int))=true:=by rw[v.bl];simp[h1]
     have x1:=xU h1
     have O:=E v.m[k].v (by have:=dP h1;omega) (ht.2.2.2.2 _ (getElem_mem h1)).2
     have hf:=hF v.m[k].name (ht.2.2.2.2 _ (getElem_mem h1)).1
     by_cases e:g v.m[k].name=true
     ·by_cases c:g7 g v.m[k].v=true
      ·have e1:(!g7 g v.m[k].v)=false:=by rw[c];rfl
       repeat' first|refine .s1 ?_|(refine .q ?_ ?_<;>intro O)|refine aH O ?_|refine Ce hf (aD _) ?_|fail
       refine⟨v.m.length-(k+1),om,[(38, .int .i64 ((k+1:Nat):Int)),(37, .int .i64 v.mv.length),(36, .slice v.mv .no),(6, .bool true),(5, .ptr 0 0),(1, .fn (.func F) [] [])],
        ⟨rfl,rfl,rfl,congrArg AV.bool c,rfl,rfl,trivial⟩,by simp[aM,AV.aa,aE,mL],by simp[aQ,aL,Ob.aa,AV.aa,aE,mK],k+1,rfl,om,by rw[hp,x7 g h1,e,c];rfl,rfl,rfl⟩
      ·have a:g7 g v.m[k].v=false:=by simpa using c
       have e1:(!g7 g v.m[k].v)=true:=WD
       repeat' first|refine .s1 ?_|(refine .q ?_ ?_<;>intro O)|refine aH O ?_|refine Ce hf (aD _) ?_|fail
       refine Fin.rb ?_
       rw[hp,x7 g h1,a,e];rfl
     ·have f:g v.m[k].name=false:=by simpa using e
      repeat' first|refine .s1 ?_|(refine .q ?_ ?_<;>intro O)|refine aH O ?_|refine Ce hf (aD _) ?_|fail
      refine Fin.rb ?_
      rw[hp,x7 g h1,f];rfl
    ·have h:decide ((k:Int)<(v.mv.length:Int))=false:=by rw[v.bl];simp;omega
     repeat' first|refine .s1 ?_|(refine .q ?_ ?_<;>intro O)|refine aH hb ?_|fail
     refine Fin.rb ?_
     rw[hp,drop_eq_nil_of_le om,C7]
     simp
   ·have j:=beF d
    rw[if_neg d]
    have hs:=Ug v ht.1
    repeat' first|refine dB ?_|refine .s1 ?_|(refine .q ?_ ?_<;>intro O)|refine aH hs ?_|fail
    exact bW
def R2(v:AH)(hv:rH v):AN prog 182 [v.C] (.bool (g7 fT v)):=by
 have h:=aCP 249 fT (λs hs=>Vg s om) v.size v (le_refl _) hv;refine pEn 2 func182 ?_;repeat' first|refine dB ?_|refine .s1 ?_|(refine .q ?_ ?_<;>intro O)|refine aH h ?_|fail
 exact bW
def aCQ(v:AH)(hv:v.size<=68719476736):AN prog 182 [v.C] (.bool (g7 fT v)):=R2 v (DR hv)
def bO:AH := .mk 0 0 [] [] []
def zO(n:Int):AH := .mk 2 n [] [] []
def jJ(s:AF):AH := .mk 4 0 s [] []
def bR(name:AF):List AG->AH×Bool
 |[]=>(bO,false)
 |m::l=>if m.name==name then (m.v,true) else bR name l
theorem pK{name:AF}{l:List AG}{k:Nat}(h:k<l.length):bR name (l.drop k)=if l[k].name==name then (l[k].v,true) else bR name (l.drop (k+1)):=by rw[drop_eq_getElem_cons h,bR]
theorem sC(k n:Int)(s:AF)(m:List AG):(AH.mk k n s [] m).lv=[]:=by rw[AH.lv,tJ]
theorem wQ(k n:Int)(s:AF)(l:List AH):(AH.mk k n s l []).mv=[]:=by rw[AH.mv,tK]
def cE{n:Int}{s:AF}{t1 t2:Tk}:AC (.agg [.int .i64 k, .int .i64 n, .str s, .slice [] t1, .slice [] t2]) (AH.mk k n s [] []).C:=by unfold AH.C;rw[sC,wQ];exact AC.agg (AA.cons (aG _) (AA.cons (aG _) (AA.cons (aG _) (AA.cons (AC.no (aD _)) (AA.cons (AC.no (aD _)) (aD _))))))
def fI:List AV:=[.int .i64 0, .int .i64 0, .str [], .slice [] .nil, .slice [] .nil]
theorem get(name:AF)(l:List AG)(hl:l.length<=9223372036854775807):AN prog 62 [.str name, .slice (l.map AG.C) .no] (.tup [(bR name l).1.C, .bool (bR name l).2]):=by
 refine pER [.cell 4 43, .tmp 5] func62 ?_;refine .go ?_;change AB _ _ _ _ _ _ _;refine AB.loop (λn s H=>∃k:Nat,n=l.length-k/\k<=l.length/\bR name l=bR name (l.drop k)/\H=⟨[.cells fI],[]⟩/\
  s=[(10, .int .i64 k),(9, .int .i64 l.length),(8, .slice (l.map AG.C) .no),(0, .str name),(4, .ptr 0 0)])
  (s0:=[(10, .int .i64 (0:Nat)),(9, .int .i64 l.length),(8, .slice (l.map AG.C) .no),(0, .str name),(4, .ptr 0 0)])
  Z0 ⟨0,rfl,zero_le _,rfl,rfl,rfl⟩ ?_
 rintro n s H ⟨k,rfl,hk,hp,rfl,rfl⟩;by_cases h1:k<l.length
 ·have a:=ltT h1;have x1:=aU (f:=AG.C) h1
  repeat' first|refine .s1 ?_|(refine .q ?_ ?_<;>intro O)|fail
  ·refine aI rfl (AC.eq ?_);rw[hp,pK h1,if_pos O];rfl
  ·refine⟨l.length-(k+1),om,[(10, .int .i64 ((k+1:Nat):Int)),(9, .int .i64 l.length),(8, .slice (l.map AG.C) .no),(0, .str name),(4, .ptr 0 0)],
    Z0,by simp[aM,AV.aa,dE],rfl,k+1,rfl,om,XX,rfl,rfl⟩
 ·have a:=ltF h1;refine .go ?_;refine aI rfl ?_;rw[hp,drop_eq_nil_of_le om,bR];exact AC.tup (AA.cons cE (aD _))
def aDj(n:Int):AN prog 255 [.int .i64 n] (zO n).C:=by refine pER [.cell 2 43] func255 (O:=AH.K _) ?_;refine .go ?_;exact aI rfl cE
def Hv(n:AF):AN prog 61 [.str n] (jJ n).C:=by refine pER [.cell 2 43] func61 (O:=AH.K _) ?_;refine .go ?_;exact aI rfl cE
def cC(t:Ae):Bool:=lS t.name&&(decide (0<=t.ak)&&(decide (t.ak<=4)&&(decide (0<=t.ay)&&decide (t.ay<2 ^ (t.ak.toNat+1)))))
def isT(t:Ae):Bool:=cC t&&decide (t.ay % 2=1)
def b7(t:Ae):Ae:=⟨t.name,t.ak-1,t.ay/2⟩
def R4:Ae:=⟨[],0,0⟩
def fZ(t:Ae):Ae×Bool:=if cC t=true/\t.ak≠0 then (b7 t,true) else (R4,false)
def K9(t:Ae):Ae:=if cC t=true then ⟨t.name,t.ak,if t.ay % 2=1 then t.ay-1 else t.ay⟩ else t
theorem fW{t:Ae}:cC t=true↔lS t.name=true/\0<=t.ak/\t.ak<=4/\0<=t.ay/\t.ay<2 ^ (t.ak.toNat+1):=by simp[cC]
theorem wR{t:Ae}(h:cC t=true)(hl:t.ak≠0):cC (b7 t)=true:=by
 rw[fW]at *;obtain⟨h1,h2,h3,h4,a⟩:=h;have e:t.ak.toNat=(t.ak-1).toNat+1:=om
 refine⟨h1, ?_, ?_, ?_, ?_⟩
 ·show 0<=t.ak-1;omega
 ·show t.ak-1<=4;omega
 ·show 0<=t.ay/2;omega
 ·show t.ay/2<2 ^ ((t.ak-1).toNat+1);grind
def C8:AF:=[73,110,116]
def cW:AF:=[83,116,114,105,110,103]
def iB:AF:=[66,111,111,108,101,97,110]
def sID:AF:=[73,68]
def kN(n:AF):Bool:=n==C8||n==cW||n==iB||n==sID
def uY:Ag:=⟨0,[],[],[],[],[]⟩
def dQ(s:AI)(name:AF):Option Ag:=if kN name=true then some ⟨0,name,[],[],[],[]⟩ else s.ah.find? (λd=>d.name==name)
def bN(s:AI)(name:AF):Ag×Bool:=match dQ s name with
 |some d=>(d,true)
 |none=>(uY,false)
def fJ(s:AI)(name:AF)(ks:List Int):Bool:=(bN s name).2&&decide ((bN s name).1.kind∈ks)
def eC(s:AI)(name:AF):Bool:=fJ s name [0,4]
def fQ(s:AI)(name:AF):Bool:=fJ s name [1,2,3]
abbrev Uj:AH:=bO
def In:AO:=⟨[],R4,false,Uj⟩
def sD(l:List AO)(name:AF):Option AO:=l.find? (λp=>p.name==name)
def p7(l:List AO)(name:AF):AO×Bool:=match sD l name with
 |some p=>(p,true)
 |none=>(In,false)
def cH(l:List AF)(x:AF):List AF:=if x∈l then l else l++[x]
end Go.Proofs.YtdodieljpcfpcaaGreatDoor
namespace Go.Av
open Go
variable [AK]
def bH{P:Program}[Lay P]{A:Array Oper}{G:Bool}{K:AX->AE->St->Prop}{C:List Oper}{I:List Ak}{s:AE}{H:St}{R:TypeId}{D:String}{S:Array Edge}{d:Tmp}{T:TypeId}{k:Nat}{x:AV}{T': List Tok}{ti:TI}(kk:AD P A G K C (.tk::I) ((d, .an k z 1 0 0)::s) ⟨H.B,T'⟩)(hT:ty? P T=some ti:=by exact rfl)(a0:ti.size=z:=by exact rfl)(Y:ti.zero=x:=by exact rfl)(hk:dM H.T=some k:=by exact rfl)(hT': kU H.T (.Y [x]) some=some T':= by exact rfl):AD P A G K (⟨some d, .alloc T,R,D,S,none⟩::C) I s H:=
 bT (t := .tk) (σ':= ⟨H.B,T'⟩) rfl ⟨rfl,λB=>by
  intro g w a next Q hI ho hn
  subst a0;subst Y
  obtain⟨zv,hz,a1,f,a2⟩:=nQ hT w
  have h1:Ab g w ti.zero zv:=by rw[<-a1];exact kR g w zv
  have q:H.T++[.Y [ti.zero]]=T':= Option.some.inj (eX _ _ _ _ hT')
  have m:H.T.length=k:=dG hk
  have c:g.tk[k]? =none:=by
   have hlt:g.tk.length=H.T.length:=hI.lenT
   rw[<-m, <-hlt];simp
  have i:∀b o,(⟨some ⟨w.heap.size,0,none⟩,1,1,ti.size,0⟩:A9).az b o->b=w.heap.size/\o<zv.cells.size:=by
   rintro b o ⟨p,hp,rfl,e1,n⟩
   cases hp
   refine⟨rfl, ?_⟩
   rw[f]
   simpa using n
  obtain⟨g', e1,n,e3,_⟩:=Kl (k:=k) (r':= ⟨some ⟨w.heap.size,0,none⟩,1,1,ti.size,0⟩) (t' := .Y [ti.zero]) (J:=λ_ _=>False) hI (w':= dN w (.cells zv.cells T)) (.inr ⟨m.symm,rfl⟩)
   X5 rfl rfl rfl (λb hb _=>cO w _ hb) (λb o hb _=>(cF (cO w _ hb)).1) (λb o hb=>(cF (cO w _ hb)).2) (λ_ _ h=>h.elim)
   (λb o ho=>by
    obtain⟨rfl,h2⟩:=i b o ho
    exact⟨⟨zv.cells[o],(dW w zv.cells T o).trans (Array.getElem?_eq_getElem h2)⟩,j9 w zv.cells T o, .inl (le_refl _)⟩)
   (λr hr=>by rw[c]at hr;cases hr)
   (λg' y=>⟨rfl,rfl,le_refl _,[zv],⟨zv,[],rfl,Ab.mono y _ _ h1,rfl⟩,(λe=>by cases e),(λV v=>by rw[List.mem_singleton.1 v];exact f),(λp hp=>by
    cases hp
    refine⟨.inl rfl,fK (λV v=>by rw[List.mem_singleton.1 v];exact f) λj u hj=> ?_⟩
    have l:zv.cells.toList[j]? =some u:=by simpa [flat]using hj
    refine⟨trivial, ?_,a2 u (List.mem_of_getElem? l)⟩
    show (dN w (.cells zv.cells T)).cell? ⟨w.heap.size,0+j,none⟩=some u
    rw[Nat.zero_add]
    exact(dW w zv.cells T j).trans XV)⟩)
  unfold Oper.wp
  simp only[execOp,Instr.alloc,hz,newVar,newRow,newObj,Sem.run_bind,Result.andThen,Sem.run]
  exact hn _ _ _ e1 (q▸n) ⟨w.heap.size,0,rfl,om,_,e3,rfl,le_refl _,λ_=>⟨rfl,_,rfl,rfl,rfl,Wa⟩⟩⟩ kk
def aY{H:St}{k n j:Nat}{y:AV}{T': List Tok}(hT:H.T[k]? =some (.Y xs):=by exact rfl)(hn:xs.length=n:=by exact rfl)(hy:xs[j]? =some y:=by exact rfl)(hT': j5 k (.len (n+1)) H.T some=some T':= by exact rfl):
  AJ H (.an k z n j 0) ⟨H.B,T'⟩ (.ab y):=λg w v c hr=>by
 obtain⟨kl,d⟩:=d6 _ _ _ _ _ hT'
 obtain⟨r0,Vs,p,hv,hp,r,rfl,hj⟩:=Jd c hr hT hn
 obtain⟨V,q,h⟩:=hv.a1.get hy
 have e:k<H.T.length:=(List.getElem?_eq_some_iff.1 hT).1
 obtain⟨g', e1,l,e3,m⟩:=Kl (r':= ⟨none,n+1,0,z,n+1⟩) (t' := .len (n+1)) (J:=λb o=>r0.az b o) c (w':= w) (.inl ⟨e,rfl⟩) (le_refl _) rfl rfl rfl (λ_ _ _=>rfl) (λ_ _ _ _=>rfl) (λ_ _ _=>rfl)
  (λb o a=>⟨(λ⟨p,hp,_⟩=>Xm),c.bc hv.hr a, .inr ⟨r0,hv.hr,a⟩⟩)
  (λb o ⟨p,hp,_⟩=>Xm) (λr1 f=>by
   have:r1=r0:=Option.some.inj (f.symm.trans hv.hr)
   subst this
   exact .inr ⟨by rw[hv.n,hn];show n<n+1;omega,by rw[hv.sz]⟩) (λg' _=>⟨rfl,rfl⟩)
 refine⟨g', e1, ?_,p.block,p.off+j * z+0,V,rfl,λi x X=> ?_,Ab.mono e1.le _ _ h⟩
 ·rw[<-Option.some.inj d];exact l
 ·obtain⟨m1,t⟩:=(hv.mem p hp).2 j V q
  obtain⟨_,u,m4⟩:=t i x X
  have hi': i<z:=by have:=(Array.getElem?_eq_some_iff.1 X).1;omega
  have hb:(j+1) * z<=r0.cap * z:=Nat.mul_le_mul_right _ (by have:=hv.cap;have:=hv.len;omega)
  rw[Nat.succ_mul]at hb
  have hz:=hv.az hp (o:=j * z+i) om
  rw[<-Nat.add_assoc]at hz
  rw[Nat.add_zero]
  exact⟨m _ _ hz,u,m4⟩
end Go.Av
namespace Go.Proofs.YtdodieljpcfpcaaGreatDoor
open Go Go.Av Go.Proofs.Tryz
def bE{α:Type}(p:α->Bool):List α->Nat->Int
 |[],_ => -1
 |x::l,k=>if p x then (k:Int) else bE p l (k+1)
theorem cP{α:Type}{p:α->Bool}{l:List α}{k:Nat}(h:k<l.length):bE p (l.drop k) k=if p l[k] then (k:Int) else bE p (l.drop (k+1)) (k+1):=by rw[drop_eq_getElem_cons h,bE]
def eV{α:Type}(p:α->Bool):∀(l:List α) (k:Nat),(bE p l k = -1/\l.find? p=none)\/∃(j:Nat) (h:j<l.length),bE p l k=((k+j:Nat):Int)/\l.find? p=some l[j]
 |[],k => .inl ⟨rfl,rfl⟩
 |x::l,k=>by
  by_cases e:p x=true
  ·exact .inr ⟨0,Wa,by simp[bE,e],by simp[e]⟩
  ·rcases eV p l (k+1) with⟨h1,h2⟩|⟨j,h,h1,h2⟩
   ·exact .inl ⟨by simp[bE,e,h1],by simp[List.find?, e,h2]⟩
   ·exact .inr ⟨j+1,Wp,by simp[bE,e,h1];omega,by simp[List.find?, e,h2]⟩
theorem Fc{α:Type}(p:α->Bool)(l:List α):decide (0<=bE p l 0)=l.any p:=by
 rcases eV p l 0 with⟨h1,h2⟩|⟨j,hj,h1,h2⟩
 ·rw[h1];rw[List.find?_eq_none]at h2;have:l.any p=false:=by rw[Bool.eq_false_iff];intro h;obtain⟨x,Y,hp⟩:=any_eq_true.1 h;exact h2 x Y hp
  rw[this];decide
 ·rw[h1];have hp:=List.find?_some h2;have:l.any p=true:=any_eq_true.2 ⟨_,getElem_mem hj,hp⟩;rw[this];exact decide_eq_true om
def Uk(l:List AF)(x:AF):decide (0<=bE (λy=>x==y) l 0)=decide (x∈l):=by
 rw[Fc,Bool.eq_iff_iff,any_eq_true,decide_eq_true_eq];constructor
 ·rintro⟨y,hy,e⟩;rw[beq_iff_eq]at e;subst e;exact hy
 ·intro h;exact⟨x,h,Wa⟩
def R5(l:List Int)(x:Int):decide (0<=bE (λy=>x==y) l 0)=decide (x∈l):=by
 rw[Fc,Bool.eq_iff_iff,any_eq_true,decide_eq_true_eq];constructor
 ·rintro⟨y,hy,e⟩;rw[beq_iff_eq]at e;subst e;exact hy
 ·intro h;exact⟨x,h,Wa⟩
attribute [local irreducible] AB AD AN AQ Av.AS AZ
def PN(l:List AF)(x:AF)(hl:l.length<=9223372036854775807):AN prog 105 [.slice (l.map (AV.str)) .no,AV.str x] (.int .i64 (bE (λy=>x==y) l 0)):=by
 refine pEn 4 func105 (ha:=by simp[AV.K,aB,aR]) ?_;refine .go ?_;refine bK (hj:=rfl) l.length (λk=>[(8, .int .i64 k),(7, .int .i64 l.length),(0, .slice (l.map (AV.str)) .no),(1,AV.str x)]) (λ_=>⟨[],[]⟩) (λk=>bE (λy=>x==y) l 0=bE (λy=>x==y) (l.drop k) k) Z0 λk hk hp=> ?_
 by_cases h1:k<l.length
 ·have b:=ltT h1;have x1:=aU (f:=AV.str) h1;have a:=cP (p:=λy=>x==y) h1
  repeat' first|refine .s1 ?_|(refine .q ?_ ?_<;>intro O)|fail
  ·refine aP rfl (AC.eq ?_);rw[hp,a,if_pos O]
  ·exact⟨h1,Z0,Wg,rfl,rfl,Yh⟩
 ·have b:=ltF h1;refine .go ?_;refine aP rfl (AC.eq ?_);rw[hp,drop_eq_nil_of_le om,bE]
def gS(l:List AF)(x:AF)(hl:l.length<=9223372036854775807):AN prog 48 [.slice (l.map (AV.str)) .no,AV.str x] (.bool (decide (x∈l))):=by have h:=PN l x hl;refine pEn 4 func48 (ha:=by simp[AV.K,aB,aR]) ?_;refine .go ?_;exact aP rfl (AC.eq (congrArg AV.bool (Uk l x)))
def PO(l:List Int)(x:Int)(hl:l.length<=9223372036854775807):AN prog 244 [.slice (l.map (AV.int .i64)) .no,AV.int .i64 x] (.int .i64 (bE (λy=>x==y) l 0)):=by
 refine pEn 4 func244 (ha:=by simp[AV.K,aB,qP]) ?_;refine .go ?_;refine bK (hj:=rfl) l.length (λk=>[(8, .int .i64 k),(7, .int .i64 l.length),(0, .slice (l.map (AV.int .i64)) .no),(1,AV.int .i64 x)]) (λ_=>⟨[],[]⟩) (λk=>bE (λy=>x==y) l 0=bE (λy=>x==y) (l.drop k) k) Z0 λk hk hp=> ?_
 by_cases h1:k<l.length
 ·have b:=ltT h1;have x1:=aU (f:=AV.int .i64) h1;have a:=cP (p:=λy=>x==y) h1
  repeat' first|refine .s1 ?_|(refine .q ?_ ?_<;>intro O)|fail
  ·refine aP rfl (AC.eq ?_);rw[hp,a,if_pos O]
  ·exact⟨h1,Z0,Wg,rfl,rfl,Yh⟩
 ·have b:=ltF h1;refine .go ?_;refine aP rfl (AC.eq ?_);rw[hp,drop_eq_nil_of_le om,bE]
def JD(l:List Int)(x:Int)(hl:l.length<=9223372036854775807):AN prog 175 [.slice (l.map (AV.int .i64)) .no,AV.int .i64 x] (.bool (decide (x∈l))):=by have h:=PO l x hl;refine pEn 4 func175 (ha:=by simp[AV.K,aB,qP]) ?_;refine .go ?_;exact aP rfl (AC.eq (congrArg AV.bool (R5 l x)))
def MQ(l:List AO)(f:FuncId)(cs:List AV)(p:AO->Bool)(hl:l.length<=9223372036854775807)(a:aB cs=true)(hf:∀x∈l,AN prog f (AO.C x::cs) (.bool (p x))):
  AN prog 192 [.slice (l.map AO.C) .no, .fn (.func f) [] cs] (.int .i64 (bE p l 0)):=by
 refine pEn 4 func192 (ha:=by simp[AV.K,aB,b9,a]) ?_;refine .go ?_;refine bK (hj:=rfl) l.length (λk=>[(8, .int .i64 k),(7, .int .i64 l.length),(0, .slice (l.map AO.C) .no),(1, .fn (.func f) [] cs)]) (λ_=>⟨[],[]⟩) (λk=>bE p l 0=bE p (l.drop k) k) Z0 λk hk hp=> ?_
 by_cases h1:k<l.length
 ·have c:=ltT h1;have x1:=aU (f:=AO.C) h1;have d:=hf l[k] (getElem_mem h1);have b:=cP (p:=p) h1
  repeat' first|refine .s1 ?_|(refine .q ?_ ?_<;>intro O)|fail
  ·refine aP rfl (AC.eq ?_);rw[hp,b,if_pos O]
  ·exact⟨h1,Z0,WX,rfl,rfl,X1⟩
 ·have c:=ltF h1;refine .go ?_;refine aP rfl (AC.eq ?_);rw[hp,drop_eq_nil_of_le om,bE]
def MR(l:List Ah)(f:FuncId)(cs:List AV)(p:Ah->Bool)(hl:l.length<=9223372036854775807)(a:aB cs=true)(hf:∀x∈l,AN prog f (Ah.C x::cs) (.bool (p x))):
  AN prog 178 [.slice (l.map Ah.C) .no, .fn (.func f) [] cs] (.int .i64 (bE p l 0)):=by
 refine pEn 4 func178 (ha:=by simp[AV.K,aB,gF,a]) ?_;refine .go ?_;refine bK (hj:=rfl) l.length (λk=>[(8, .int .i64 k),(7, .int .i64 l.length),(0, .slice (l.map Ah.C) .no),(1, .fn (.func f) [] cs)]) (λ_=>⟨[],[]⟩) (λk=>bE p l 0=bE p (l.drop k) k) Z0 λk hk hp=> ?_
 by_cases h1:k<l.length
 ·have c:=ltT h1;have x1:=aU (f:=Ah.C) h1;have d:=hf l[k] (getElem_mem h1);have b:=cP (p:=p) h1
  repeat' first|refine .s1 ?_|(refine .q ?_ ?_<;>intro O)|fail
  ·refine aP rfl (AC.eq ?_);rw[hp,b,if_pos O]
  ·exact⟨h1,Z0,WX,rfl,rfl,X1⟩
 ·have c:=ltF h1;refine .go ?_;refine aP rfl (AC.eq ?_);rw[hp,drop_eq_nil_of_le om,bE]
end Go.Proofs.YtdodieljpcfpcaaGreatDoor
namespace Go.Av
open Go
section
variable [AK]
variable {P:Program} {A:Array Oper} {G:Bool} {K:AX->AE->St->Prop} {C:List Oper} {I:List Ak} {s:AE} {H:St} {d:Tmp} {R:TypeId} {D:String} {S:Array Edge}
theorem x8{m:Nat}(h:m<9223372036854775808):(BitVec.ofInt 64 (m:Int)).toNat=m:=by rw[BitVec.ofInt_natCast,BitVec.toNat_ofNat,Nat.mod_eq_of_lt om]
theorem C9{m:Nat}(h:m<9223372036854775808):IntKind.i64.wrap (m:Int)=(m:Int):=IntWalk.i64_in _ om
def DT{x y:Operand}{a b:Int}{m n r:Nat}(Y:ev? s x=some (.int .i64 a))(hy:ev? s y=some (.int .i64 b))(ha:a=(m:Int))(hb:b=(n:Int))(f:m<9223372036854775808)(hn:n<9223372036854775808)(hr:m &&& n=r)
  (i:AD P A G K C (.pure::I) ((d, .int .i64 (r:Int))::s) H):AD P A G K (⟨some d, .binOp .and T x y U,R,D,S,none⟩::C) I s H:=
 fE Y hy (λg w u v h hv=>by
  cases (show u=_ from h);cases (show v=_ from hv)
  subst ha;subst hb
  have c:m &&& n<=m:=Nat.and_le_left
  have e:IntKind.i64.wrap (((BitVec.ofInt IntKind.i64.bits (m:Int)) &&& (BitVec.ofInt IntKind.i64.bits (n:Int))).toNat:Int)=(r:Int):=by
   rw[BitVec.toNat_and,show (BitVec.ofInt IntKind.i64.bits (m:Int)).toNat=m from x8 f,show (BitVec.ofInt IntKind.i64.bits (n:Int)).toNat=n from x8 hn,hr,C9 om]
  exact⟨.int .i64 (r:Int),YD,rfl⟩) i
def aCR{m n:Nat}(a:m<9223372036854775808)(hn:n<9223372036854775808):m ||| n<9223372036854775808:=Nat.or_lt_two_pow (n:=63) a hn
def aCS{x y:Operand}{a b:Int}{m n r:Nat}(Y:ev? s x=some (.int .i64 a))(hy:ev? s y=some (.int .i64 b))(ha:a=(m:Int))(hb:b=(n:Int))(c:m<9223372036854775808)(hn:n<9223372036854775808)(hr:m ||| n=r)
  (i:AD P A G K C (.pure::I) ((d, .int .i64 (r:Int))::s) H):AD P A G K (⟨some d, .binOp .or T x y U,R,D,S,none⟩::C) I s H:=
 fE Y hy (λg w u v h hv=>by
  cases (show u=_ from h);cases (show v=_ from hv)
  subst ha;subst hb
  have f:=aCR c hn
  have e:IntKind.i64.wrap (((BitVec.ofInt IntKind.i64.bits (m:Int)) ||| (BitVec.ofInt IntKind.i64.bits (n:Int))).toNat:Int)=(r:Int):=by
   rw[BitVec.toNat_or,show (BitVec.ofInt IntKind.i64.bits (m:Int)).toNat=m from x8 c,show (BitVec.ofInt IntKind.i64.bits (n:Int)).toNat=n from x8 hn,hr,C9 om]
  exact⟨.int .i64 (r:Int),YD,rfl⟩) i
def R6{x y:Operand}{a b r:Int}(Y:ev? s x=some (.int .i64 a))(hy:ev? s y=some (.int .i64 b))(hr:IntKind.i64.wrap (((BitVec.ofInt IntKind.i64.bits a) &&& ~~~(BitVec.ofInt IntKind.i64.bits b)).toNat:Int)=r)
  (e:AD P A G K C (.pure::I) ((d, .int .i64 r)::s) H):AD P A G K (⟨some d, .binOp .andNot T x y U,R,D,S,none⟩::C) I s H:=
 fE Y hy (λg w u v c hv=>by
  cases (show u=_ from c);cases (show v=_ from hv)
  exact⟨.int .i64 r,by simp only[eqGuard,Go.binOp,Op.intBits];rw[hr];rfl,rfl⟩) e
def aCT(m:Nat):m &&& 31=m % 32:=Nat.and_two_pow_sub_one_eq_mod m 5
def aCU(m:Nat):m &&& 15=m % 16:=Nat.and_two_pow_sub_one_eq_mod m 4
def aDk(m:Nat):m &&& 7=m % 8:=Nat.and_two_pow_sub_one_eq_mod m 3
def aCV(m:Nat):m &&& 63=m % 64:=Nat.and_two_pow_sub_one_eq_mod m 6
def aDl(m n:Nat)(h:n<64):m * 64 ||| n=m * 64+n:=by have:=Nat.two_pow_add_eq_or_of_lt (i:=6) (b:=n) h m;rw[Nat.mul_comm]at this;exact this.symm
def wS:Nat->Code->Code
 |0,c=>c
 |n+1, .seq _ y=>wS n y
 |_+1,c=>c
def uB(f:Func):Code:=f.body.getD .skip
end
end Go.Av
