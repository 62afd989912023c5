/- Joined texts. -/
import Derived.Laws.Append
import Derived.Test.YtdodieljpcfpcaaGreatDoorAvCode
set_option linter.all false
open List (getElem?_append_left length_append length_cons mem_append)
open Nat (add_mul add_zero le_refl succ_mul)
open Array (getElem?_toList)
open Go Go.Av
variable{α:Type}{r:A9}{v:AV}{J:Array Value}{b:Bool}{g':Gh}{m n:Int}{k:IntKind}{xs ys:List AV}{B':List Ob}{T':List Tok}{Vs:List Value}{j o h:Nat}{e:Op}{x y:Operand}{dst:Option Tmp}{T U:TypeId}{u:Value}{w':World}
namespace Go.Av
open Go
variable [AK]
inductive B6 where
  |bool|int (k:IntKind)|string|slice|struct|array (n:Nat)|pointer|map|iface|func|other
  deriving DecidableEq
structure TI where
  kind:B6
  size:Nat
  bytes:Nat
  agg:Bool
  zero:AV
  fields:List (Nat×Nat×Bool)
  elem:Nat
def tD:TypeDesc->B6
  | .bool => .bool
  | .int k => .int k
  | .string => .string
  | .slice _ => .slice
  | .struct _ => .struct
  | .array n _ => .array n
  | .pointer _ => .pointer
  | .map _ _ => .map
  | .interface _ => .iface
  | .func _ _ _ => .func
  |_ => .other
def I7:TypeDesc->Nat
  | .slice e=>e
  | .array _ e=>e
  | .pointer e=>e
  | .map _ e=>e
  |_=>0
def Dw:TypeDesc->Bool
  | .struct _ | .array _ _=>true
  |_=>false
def oB(P:Program):TypeDesc->List (Nat×Nat×Bool)
  | .struct fs=>fs.toList.map λf=>(f.offset,P.cellsOf f.type,((P.underlying f.type).map Dw).getD false)
  |_=>[]
structure CE(P:Program)(t:TypeId)(i:TI):Prop where
  ex:∃info d z,P.info? t=some info/\P.underlying t=some d/\tD d=i.kind/\I7 d=i.elem/\Dw d=i.agg/\info.size=i.size/\info.bytes=i.bytes/\
    info.zero=some z/\qL z=i.zero/\z.cells.size=i.size/\oB P d=i.fields/\(z.cells.toList.all λv=>v.oneCell')=true/\
    (∀fs,d = .struct fs->∀f∈fs.toList,(P.info? f.type).isSome=true/\(P.underlying f.type).isSome=true)
def Bn(P:Program):List (Nat×TI)->Prop
  |[]=>True
  |(t,i)::l=>CE P t i/\Bn P l
def Tm:List (Nat×TI)->Nat->Option TI
  |[],_=>none
  |(t,i)::l,u=>bif Nat.beq t u then some i else Tm l u
class Lay(P:Program) where
  L:List (Nat×TI)
  ok:Bn P L
  c8:P.follows .mixedOrders=true
theorem Bn.get{P:Program}:∀ {L:List (Nat×TI)},Bn P L->∀ {t:Nat} {i:TI},Tm L t=some i->CE P t i
  |[],_,_,_,h=>by cases h
  |(t', a)::l,⟨h1,h2⟩,t,i,h=>by
    unfold Tm at h;cases e:Nat.beq t' t with
    |true=>simp_all
    |false=>rw[e]at h;exact h2.get h
def ty?(P:Program)[Lay P](t:Nat):Option TI:=Tm (Lay.L P) t
def eK{P:Program}[Lay P]{t:Nat}{i:TI}(h:ty? P t=some i):CE P t i:=Bn.get Lay.ok h
def lk? :AE->Nat->Option AV
  |[],_=>none
  |(t,v)::s,u=>bif Nat.beq t u then some v else lk? s u
def const? :Value->Option AV
  | .bool b=>some (.bool b)
  | .int k n=>some (.int k n)
  | .string ⟨⟨l⟩⟩=>some (.str l)
  | .pointer none=>some .nilp
  | .slice none 0 0=>some (.slice [] .nil)
  | .map none=>some .nilmap
  | .nilFunc=>some .nilfn
  | .nilIface=>some .nili
  | .agg cs=>bif cs.toList.all (·.oneCell') then some (.agg (cs.toList.map yY)) else none
  |_=>none
def ev?(s:AE):Operand->Option AV
  | .tmp t=>lk? s t
  | .const v=>const? v
  | .global g=>I5 AK.table g
  | .func f=>some (.fn (.func f) [] [])
theorem g9:∀ {s:AE} {t:Nat} {v:AV},lk? s t=some v->lk s t=v
  |[],_,_,h=>by cases h
  |(t', a)::s,t,v,h=>by
    unfold lk? at h;unfold lk;cases e:Nat.beq t' t with
    |true=>rw[e]at h;cases h;rfl
    |false=>rw[e]at h;exact g9 h
def QB{v:Value}{x:AV}(h:const? v=some x):qL v=x:=by
  cases v with
  |bool b=>cases h;rfl
  |int k n=>cases h;rfl
  |string s=>obtain⟨⟨l⟩⟩:=s;cases h;rfl
  |pointer a=>cases a<;>cases h;rfl
  |slice a l c=>
    cases a with
    |some a=>cases h
    |none=>
      cases l with
      |succ l=>cases h
      |zero=>
        cases c with
        |succ c=>cases h
        |zero=>cases h;rfl
  |map r=>cases r<;>cases h;rfl
  |nilFunc=>cases h;rfl
  |nilIface=>cases h;rfl
  |agg cs=>
    show (bif cs.toList.all (·.oneCell') then AV.agg (cs.toList.map yY) else .undef)=x;have d:(bif cs.toList.all (·.oneCell') then some (AV.agg (cs.toList.map yY)) else none)=some x:=h;cases e:cs.toList.all (·.oneCell') with
    |true=>rw[e]at d;cases d;rfl
    |false=>rw[e]at d;cases d
  |_=>cases h
theorem pR{s:AE}(h:ev? s x=some v):ev s x=v:=by
  cases x with
  |tmp t=>exact g9 h
  |const c=>exact QB h
  |global g=>show (I5 AK.table g).getD .undef=v;rw[show I5 AK.table g=some v from h];rfl
  |func f=>cases h;rfl
section
variable {P:Program} {s:AE} {H:St}
def eZ{o:Oper}(h:∀(g:Gh) (w:World) (a:Act),(∀x,x∈o.op.operands.toList->Ab g w (ev s x) (a.eval x))->∃u,(execOp a.eval o).run P w = .ok (.value u) w/\Ab g w v u):
    AZ .pure P o s H H v:=by refine⟨rfl,λτ=> ?_⟩;intro g w a next Q X b hn;obtain⟨u,h1,h2⟩:=h g w a b;unfold Oper.wp;rw[h1];exact hn u w g (fD g w) X h2
end
section rules
variable {P:Program} {A:Array Oper} {G:Bool} {K:AX->AE->St->Prop} {C:List Oper} {I:List Ak} {s:AE} {H:St}
variable {d:Tmp} {R:TypeId} {D:String} {S:Array Edge}
def aBa(h:G=true->xJ A I.reverse=true)(k:K .normal s H):AD P A G K [] I s H:=⟨h,k⟩
def cS(k:K .normal s H):AD P A false K [] I s H:=⟨(λh=>Wu),k⟩
def bT{o:Oper}{t:Ak}{σ': St}(b:o.guard=none)(a:AZ t P o s H σ' v)(k:AD P A G K C (t::I) (iJ o.dst v s) σ'):AD P A G K (o::C) I s H:=
  .inl ⟨by unfold A6;rw[b],t,v,σ', a,k⟩
def yv(A:Array Oper)(s:AE)(j:Nat):Option AV:=((A[j]?).bind (·.dst)).bind (lk? s)
def NF(h:yv A s j=some (.bool b)):∃d,(A[j]?).bind (·.dst)=some d/\lk s d = .bool b:=by
  unfold yv at h;cases e:(A[j]?).bind (·.dst) with
  |none=>rw[e]at h;cases h
  |some d=>rw[e]at h;exact⟨d,rfl,g9 h⟩
def U2{a b:Bool}(h:yv A s j=some (.bool b))(hb:b=a)(k:AD P A G K (⟨dst,e,R,D,S,none⟩::C) I s H):
    AD P A G K (⟨dst,e,R,D,S,some (j,a)⟩::C) I s H:=by
  obtain⟨d,h1,h2⟩:=NF h;have hw:A6 A s ⟨dst,e,R,D,S,some (j,a)⟩ true:=⟨d,h1, .inl ⟨b,h2,by subst hb;simp⟩⟩;rcases k with⟨_,t,v,σ', c,hr⟩|⟨hf,_⟩|⟨hd,_,x,σ', c,hr⟩
  · exact .inl ⟨hw,t,v,σ', c,hr⟩
  · cases (show false=true from hf)
  · exact .inr (.inr ⟨hd,hw,x,σ', c,hr⟩)
def aBb{c:Op}{a b:Bool}(h:yv A s j=some (.bool b))(hb:b = !a)(k:AD P A G K C (.pure::I) (iJ dst (.tup []) s) H):
    AD P A G K (⟨dst,c,R,D,S,some (j,a)⟩::C) I s H:=by obtain⟨d,h1,h2⟩:=NF h;exact .inr (.inl ⟨⟨d,h1, .inl ⟨b,h2,by subst hb;cases a<;>rfl⟩⟩,k⟩)
def VB{b:Op}{a:Bool}(h:yv A s j=some (.tup []))(k:AD P A G K C (.pure::I) (iJ dst (.tup []) s) H):
    AD P A G K (⟨dst,b,R,D,S,some (j,a)⟩::C) I s H:=by
  unfold yv at h;cases e:(A[j]?).bind (·.dst) with
  |none=>rw[e]at h;cases h
  |some d=>rw[e]at h;exact .inr (.inl ⟨⟨d,e, .inr ⟨g9 h,rfl⟩⟩,k⟩)
def fL{d:Op}{a b:Bool}(h:yv A s j=some (.bool b))(g:b=a->AD P A G K (⟨dst,d,R,D,S,none⟩::C) I s H)
    (f:b=(!a)->AD P A G K C (.pure::I) (iJ dst (.tup []) s) H):AD P A G K (⟨dst,d,R,D,S,some (j,a)⟩::C) I s H:=by
  by_cases e:b=a
  · exact U2 h e (g e)
  · have c:b = !a:=by cases b<;>cases a<;>simp_all
    exact aBb h c (f c)
def VC(h:ev? s x=some v)(k:AD P A G K C (.pure::I) ((d,v)::s) H):AD P A G K (⟨some d, .move x,R,D,S,none⟩::C) I s H:=
  bT rfl (eZ λg w a b=>⟨a.eval x,rfl,Zh⟩) k
def QC(h:ev? s x=some v)(k:AD P A G K C (.pure::I) ((d,v)::s) H):AD P A G K (⟨some d, .assign x,R,D,S,none⟩::C) I s H:=
  bT rfl (eZ λg w a b=>⟨a.eval x,rfl,Zh⟩) k
def Kd{c x y:Operand}(O:ev? s c=some (.bool b))(hb:b=true)(h:ev? s x=some v)(k:AD P A G K C (.pure::I) ((d,v)::s) H):
    AD P A G K (⟨some d, .pick c x y,R,D,S,none⟩::C) I s H:=
  bT rfl (eZ λg w a f=>by have h1:=f c Wd;rw[pR O,hb]at h1;have e:a.eval c = .bool true:=h1;refine⟨a.eval x, ?_,by rw[<-pR h];exact f x Wd⟩;simp[execOp,e,asBool]) k
def I8{c x y:Operand}(O:ev? s c=some (.bool b))(hb:b=false)(h:ev? s y=some v)(k:AD P A G K C (.pure::I) ((d,v)::s) H):
    AD P A G K (⟨some d, .pick c x y,R,D,S,none⟩::C) I s H:=
  bT rfl (eZ λg w a f=>by have h1:=f c Wd;rw[pR O,hb]at h1;have e:a.eval c = .bool false:=h1;refine⟨a.eval y, ?_,by rw[<-pR h];exact f y Wd⟩;simp[execOp,e,asBool]) k
def aBc(h:ev? s x=some (.bool b))(k:AD P A G K C (.pure::I) ((d, .bool (!b))::s) H):AD P A G K (⟨some d, .unOp .not T x,R,D,S,none⟩::C) I s H:=
  bT rfl (eZ λg w a e=>by have h1:=e x Wd;rw[pR h]at h1;have c:a.eval x = .bool b:=h1;refine⟨.bool (!b), ?_,rfl⟩;simp[execOp,c,Op.unary]) k
def fE{e:BinOp}{i j r:AV}(Y:ev? s x=some i)(hy:ev? s y=some j)
    (hr:∀(g:Gh) (w:World) (a b:Value),Ab g w i a->Ab g w j b->∃u,(do eqGuard e T x y a b;Go.binOp e T a b:Sem Value).run P w = .ok u w/\Ab g w r u)
    (k:AD P A G K C (.pure::I) ((d,r)::s) H):AD P A G K (⟨some d, .binOp e T x y U,R,D,S,none⟩::C) I s H:=
  bT rfl (eZ λg w a f=>by
    have h1:=f x Wd
    have h2:=f y Wd
    rw[pR Y]at h1
    rw[pR hy]at h2
    obtain⟨u,h,c⟩:=hr g w _ _ h1 h2
    refine⟨u, ?_,c⟩
    simp only[execOp,Sem.run_bind]at h ⊢
    rw[h]
    rfl) k
def Ke(c:AD P A G K C (.pure::I) ((d, .int k (k.wrap (m+n)))::s) H)(Y:ev? s x=some (.int k m):=by exact rfl)(hy:ev? s y=some (.int k n):=by exact rfl):
    AD P A G K (⟨some d, .binOp .add T x y U,R,D,S,none⟩::C) I s H:=
  fE Y hy (λg w a b ha hb=>by cases (show a=_ from ha);cases (show b=_ from hb);exact⟨.int k (k.wrap (m+n)),XU,rfl⟩) c
def QD(Y:ev? s x=some (.int k m))(hy:ev? s y=some (.int k n))(c:AD P A G K C (.pure::I) ((d, .int k (k.wrap (m-n)))::s) H):
    AD P A G K (⟨some d, .binOp .sub T x y U,R,D,S,none⟩::C) I s H:=
  fE Y hy (λg w a b ha hb=>by cases (show a=_ from ha);cases (show b=_ from hb);exact⟨.int k (k.wrap (m-n)),XU,rfl⟩) c
def aBd(Y:ev? s x=some (.int k m))(hy:ev? s y=some (.int k n))(c:AD P A G K C (.pure::I) ((d, .int k (k.wrap (m * n)))::s) H):
    AD P A G K (⟨some d, .binOp .mul T x y U,R,D,S,none⟩::C) I s H:=
  fE Y hy (λg w a b ha hb=>by cases (show a=_ from ha);cases (show b=_ from hb);exact⟨.int k (k.wrap (m * n)),XU,rfl⟩) c
def Tn{r:Int}(a:AD P A G K C (.pure::I) ((d, .int .i64 r)::s) H)(Y:ev? s x=some (.int .i64 m):=by exact rfl)(hy:ev? s y=some (.int .i64 n):=by exact rfl)(hr:m+n=r:=by omega)(hb : -9223372036854775808<=r/\r<=9223372036854775807:=by omega):AD P A G K (⟨some d, .binOp .add T x y U,R,D,S,none⟩::C) I s H:=
  Ke (Y:=Y) (hy:=hy) XL
def tF{r:Int}(a:AD P A G K C (.pure::I) ((d, .int .i64 r)::s) H)(Y:ev? s x=some (.int .i64 m):=by exact rfl)(hy:ev? s y=some (.int .i64 n):=by exact rfl)(hr:m-n=r:=by omega)(hb : -9223372036854775808<=r/\r<=9223372036854775807:=by omega):AD P A G K (⟨some d, .binOp .sub T x y U,R,D,S,none⟩::C) I s H:=
  QD Y hy XL
def aBe(Y:ev? s x=some (.int k m))(hy:ev? s y=some (.int k n))(c:AD P A G K C (.pure::I) ((d, .bool (decide (m<n)))::s) H):
    AD P A G K (⟨some d, .binOp .lss T x y U,R,D,S,none⟩::C) I s H:=
  fE Y hy (λg w a b ha hb=>by cases (show a=_ from ha);cases (show b=_ from hb);exact⟨.bool (decide (m<n)),WF,rfl⟩) c
def aBf(Y:ev? s x=some (.int k m))(hy:ev? s y=some (.int k n))(c:AD P A G K C (.pure::I) ((d, .bool (decide (m<=n)))::s) H):
    AD P A G K (⟨some d, .binOp .leq T x y U,R,D,S,none⟩::C) I s H:=
  fE Y hy (λg w a b ha hb=>by cases (show a=_ from ha);cases (show b=_ from hb);exact⟨.bool (decide (m<=n)),WF,rfl⟩) c
def aBg(Y:ev? s x=some (.int k m))(hy:ev? s y=some (.int k n))(c:AD P A G K C (.pure::I) ((d, .bool (decide (n<m)))::s) H):
    AD P A G K (⟨some d, .binOp .gtr T x y U,R,D,S,none⟩::C) I s H:=
  fE Y hy (λg w a b ha hb=>by cases (show a=_ from ha);cases (show b=_ from hb);exact⟨.bool (decide (n<m)),WF,rfl⟩) c
def aBh(Y:ev? s x=some (.int k m))(hy:ev? s y=some (.int k n))(c:AD P A G K C (.pure::I) ((d, .bool (decide (n<=m)))::s) H):
    AD P A G K (⟨some d, .binOp .geq T x y U,R,D,S,none⟩::C) I s H:=
  fE Y hy (λg w a b ha hb=>by cases (show a=_ from ha);cases (show b=_ from hb);exact⟨.bool (decide (n<=m)),WF,rfl⟩) c
def aBi(Y:ev? s x=some (.int k m))(hy:ev? s y=some (.int k n))(c:AD P A G K C (.pure::I) ((d, .bool (m==n))::s) H):
    AD P A G K (⟨some d, .binOp .eql T x y U,R,D,S,none⟩::C) I s H:=
  fE Y hy (λg w a b ha hb=>by cases (show a=_ from ha);cases (show b=_ from hb);exact⟨.bool (m==n),WF,rfl⟩) c
def aBj(Y:ev? s x=some (.int k m))(hy:ev? s y=some (.int k n))(c:AD P A G K C (.pure::I) ((d, .bool (m != n))::s) H):
    AD P A G K (⟨some d, .binOp .neq T x y U,R,D,S,none⟩::C) I s H:=
  fE Y hy (λg w a b ha hb=>by cases (show a=_ from ha);cases (show b=_ from hb);exact⟨.bool (m != n),WF,rfl⟩) c
def nJ:List UInt8->List UInt8->Bool
  |_,[]=>false
  |[],_::_=>true
  |a::x,b::y=>a<b||(a==b&&nJ x y)
theorem vV:∀a b,Op.bytesLess a b=nJ a b
  |a,[]=>by cases a<;>rfl
  |[],_::_=>rfl
  |a::x,b::y=>by rw[Op.bytesLess,nJ,vV x y]
def aBk{m n:List UInt8}(Y:ev? s x=some (.str m))(hy:ev? s y=some (.str n))(c:AD P A G K C (.pure::I) ((d, .bool (m==n))::s) H):
    AD P A G K (⟨some d, .binOp .eql T x y U,R,D,S,none⟩::C) I s H:=
  fE Y hy (λg w a b ha hb=>by cases (show a=_ from ha);cases (show b=_ from hb);exact⟨.bool (m==n),by simp[eqGuard,Go.binOp,Op.stringOp],rfl⟩) c
def aBl{m n:List UInt8}(Y:ev? s x=some (.str m))(hy:ev? s y=some (.str n))(c:AD P A G K C (.pure::I) ((d, .bool (m != n))::s) H):
    AD P A G K (⟨some d, .binOp .neq T x y U,R,D,S,none⟩::C) I s H:=
  fE Y hy (λg w a b ha hb=>by cases (show a=_ from ha);cases (show b=_ from hb);exact⟨.bool (m != n),by simp[eqGuard,Go.binOp,Op.stringOp,bne],rfl⟩) c
def aBm{m n:List UInt8}(Y:ev? s x=some (.str m))(hy:ev? s y=some (.str n))(c:AD P A G K C (.pure::I) ((d, .bool (nJ m n))::s) H):
    AD P A G K (⟨some d, .binOp .lss T x y U,R,D,S,none⟩::C) I s H:=
  fE Y hy (λg w a b ha hb=>by cases (show a=_ from ha);cases (show b=_ from hb);exact⟨.bool (nJ m n),Xd,rfl⟩) c
def aBn{m n:List UInt8}(Y:ev? s x=some (.str m))(hy:ev? s y=some (.str n))(c:AD P A G K C (.pure::I) ((d, .bool (!(nJ m n||m==n)))::s) H):
    AD P A G K (⟨some d, .binOp .gtr T x y U,R,D,S,none⟩::C) I s H:=
  fE Y hy (λg w a b ha hb=>by cases (show a=_ from ha);cases (show b=_ from hb);exact⟨.bool (!(nJ m n||m==n)),Xd,rfl⟩) c
def aBo{m n:List UInt8}(Y:ev? s x=some (.str m))(hy:ev? s y=some (.str n))(c:AD P A G K C (.pure::I) ((d, .bool (nJ m n||m==n))::s) H):
    AD P A G K (⟨some d, .binOp .leq T x y U,R,D,S,none⟩::C) I s H:=
  fE Y hy (λg w a b ha hb=>by cases (show a=_ from ha);cases (show b=_ from hb);exact⟨.bool (nJ m n||m==n),Xd,rfl⟩) c
def aBp{m n:List UInt8}(Y:ev? s x=some (.str m))(hy:ev? s y=some (.str n))(c:AD P A G K C (.pure::I) ((d, .bool (!nJ m n))::s) H):
    AD P A G K (⟨some d, .binOp .geq T x y U,R,D,S,none⟩::C) I s H:=
  fE Y hy (λg w a b ha hb=>by cases (show a=_ from ha);cases (show b=_ from hb);exact⟨.bool (!nJ m n),Xd,rfl⟩) c
def QE{m n:List UInt8}(Y:ev? s x=some (.str m))(hy:ev? s y=some (.str n))(hb:m.length+n.length<=9223372036854775807)(f:AD P A G K C (.pure::I) ((d, .str (m++n))::s) H):
    AD P A G K (⟨some d, .binOp .add T x y U,R,D,S,none⟩::C) I s H:=
  fE Y hy (λg w a b ha hb'=> by
    cases (show a=_ from ha);cases (show b=_ from hb');refine⟨.string ⟨(m++n).toArray⟩, ?_,rfl⟩;have e:(⟨m.toArray⟩:ByteArray)++⟨n.toArray⟩=⟨(m++n).toArray⟩:=by apply ByteArray.ext;simp_all
    have h1:(⟨m.toArray⟩:ByteArray).size=m.length:=XF
    have h2:(⟨n.toArray⟩:ByteArray).size=n.length:=XF
    have hs:¬(((m.length+n.length:Nat):Int)>IntKind.i64.max):=by simp only[IntKind.max,IntKind.signed,IntKind.bits,if_true];omega
    have c:Go.binOp .add T (.string ⟨m.toArray⟩) (.string ⟨n.toArray⟩)=pure (.string ⟨(m++n).toArray⟩):=by unfold Go.binOp Op.stringOp;grind
    rw[c];simp[eqGuard]) f
end rules
def NG{α:Type}:Nat->List AV->(List AV->Option α)->Option α
  |0,_,k=>k []
  |n+1,x::l,k=>NG n l λr=>k (x::r)
  |_+1,[],_=>none
def HO:Nat->List AV->List AV
  |0,l=>l
  |n+1,_::l=>HO n l
  |_+1,[]=>[]
def dM{α:Type}:List α->Option Nat
  |[]=>some 0
  |[_]=>some 1
  |[_,_]=>some 2
  |[_,_,_]=>some 3
  |[_,_,_,_]=>some 4
  |[_,_,_,_,_]=>some 5
  |[_,_,_,_,_,_]=>some 6
  |[_,_,_,_,_,_,_]=>some 7
  |[_,_,_,_,_,_,_,_]=>some 8
  |[_,_,_,_,_,_,_,_,_]=>some 9
  |[_,_,_,_,_,_,_,_,_,_]=>some 10
  |[_,_,_,_,_,_,_,_,_,_,_]=>some 11
  |[_,_,_,_,_,_,_,_,_,_,_,_]=>some 12
  |l=>some l.length
def cut(agg:Bool)(n off:Nat)(cs:List AV):Option AV:=
  match agg with
  |true=>NG n (HO off cs) λr=>some (.agg r)
  |false=>match HO off cs with
    |c::_=>some c
    |[]=>none
def kT{α:Type}(v:AV)(k:List AV->Option α):Option α:=
  match v with
  | .agg cs=>k cs
  | .undef=>none
  | .tup _=>none
  | .bool b=>k [.bool b]
  | .int i n=>k [.int i n]
  | .str s=>k [.str s]
  | .slice xs t=>k [.slice xs t]
  | .ptr i o=>k [.ptr i o]
  | .ab x=>k [.ab x]
  | .nilp=>k [.nilp]
  | .praw a=>k [.praw a]
  | .fn f a b=>k [.fn f a b]
  | .nilfn=>k [.nilfn]
  | .iface t x=>k [.iface t x]
  | .nili=>k [.nili]
  | .map i=>k [.map i]
  | .nilmap=>k [.nilmap]
  | .iter i=>k [.iter i]
  | .view xs n=>k [.view xs n]
  | .Y i z n l h=>k [.Y i z n l h]
  | .an i z n j o=>k [.an i z n j o]
def fits(agg:Bool)(n:Nat):AV->Bool
  | .agg cs=>agg&&Nat.beq cs.length n
  | .undef=>false
  | .tup _=>false
  |_ => !agg&&Nat.beq n 1
def Ci{α:Type}:Nat->List AV->List AV->(List AV->Option α)->Option α
  |0,vs,cs,k=>go vs cs k
  |n+1,vs,c::cs,k=>Ci n vs cs λr=>k (c::r)
  |_+1,_,[],_=>none
where
  go:List AV->List AV->(List AV->Option α)->Option α
    |[],cs,k=>k cs
    |v::vs,_::cs,k=>go vs cs λr=>k (v::r)
    |_::_,[],_=>none
def To{α:Type}:Nat->List Ob->(Ob->(Ob->Option α)->Option α)->(List Ob->Option α)->Option α
  |0,o::B,f,k=>f o λo'=> k (o':: B)
  |n+1,o::B,f,k=>To n B f λr=>k (o::r)
  |_,[],_,_=>none
def kU{α β:Type}:List β->β->(List β->Option α)->Option α
  |[],o,k=>k [o]
  |x::B,o,k=>kU B o λr=>k (x::r)
def FD{α:Type}:∀(n:Nat) (l:List AV) (k:List AV->Option α) (r:α),NG n l k=some r->n<=l.length/\k (l.take n)=some r
  |0,l,k,r,h=>⟨Nat.zero_le _,by simpa [NG]using h⟩
  |n+1,x::l,k,r,h=>by have:=FD n l _ r h;simp_all
  |n+1,[],k,r,h=>Wu
theorem Cj:∀(n:Nat) (l:List AV),HO n l=l.drop n
  |0,l=>rfl
  |n+1,x::l=>by rw[HO,Cj n l];rfl
  |n+1,[]=>rfl
def vW{agg:Bool}{n a:Nat}{cs:List AV}(h:cut agg n a cs=some v):
    (agg=true/\a+n<=max cs.length a/\v = .agg ((cs.drop a).take n)/\n<=(cs.drop a).length)\/(agg=false/\cs[a]? =some v):=by
  unfold cut at h;cases agg with
  |true=>obtain⟨h1,h2⟩:=FD _ _ _ _ h;rw[Cj]at h1 h2;grind
  |false=>
    right;simp only[Cj]at h;cases b:cs.drop a with
    |nil=>rw[b]at h;cases h
    |cons c l=>
      rw[b]at h;cases h;have:(cs.drop a)[0]? =some v:=Wz
      grind
def yZ:AV->List AV
  | .agg cs=>cs
  |v=>[v]
def Kf{k:List AV->Option α}{r:α}(h:kT v k=some r):k (yZ v)=some r/\kT v some=some (yZ v):=by cases v<;>first|exact⟨h,rfl⟩|cases h
def jQ{k:List AV->Option α}{r:α}(h:kT v k=some r){g:Gh}{w:World}(hv:Ab g w v u):
    ∃cs,k cs=some r/\AL g w cs u.cells.toList/\(∀x∈u.cells.toList,x.oneCell'= true):=by
  cases v with
  |agg cs=>obtain⟨vs,rfl,h1,h2⟩:=hv;exact⟨cs,h,h1,h2⟩
  |undef=>cases h
  |tup cs=>cases h
  |bool b=>cases (show u=_ from hv);exact⟨_,h,⟨_,[],rfl,rfl,rfl⟩,Wk⟩
  |int i n=>cases (show u=_ from hv);exact⟨_,h,⟨_,[],rfl,rfl,rfl⟩,Wk⟩
  |str s=>cases (show u=_ from hv);exact⟨_,h,⟨_,[],rfl,rfl,rfl⟩,Wk⟩
  |slice xs t=>have c:=hv;obtain⟨a,cap,sz,Vs,rfl,_⟩:=hv;exact⟨_,h,⟨_,[],rfl,c,rfl⟩,Wk⟩
  |ptr i o=>have c:=hv;obtain⟨b,_,rfl⟩:=hv;exact⟨_,h,⟨_,[],rfl,c,rfl⟩,Wk⟩
  |ab x=>have c:=hv;obtain⟨b,o,V,rfl,_⟩:=hv;exact⟨_,h,⟨_,[],rfl,c,rfl⟩,Wk⟩
  |nilp=>cases (show u=_ from hv);exact⟨_,h,⟨_,[],rfl,rfl,rfl⟩,Wk⟩
  |praw a=>cases (show u=_ from hv);exact⟨_,h,⟨_,[],rfl,rfl,rfl⟩,Wk⟩
  |fn f a b=>have c:=hv;obtain⟨vs,ws,rfl,_⟩:=hv;exact⟨_,h,⟨_,[],rfl,c,rfl⟩,Wk⟩
  |nilfn=>cases (show u=_ from hv);exact⟨_,h,⟨_,[],rfl,rfl,rfl⟩,Wk⟩
  |iface t x=>have c:=hv;obtain⟨y,rfl,_⟩:=hv;exact⟨_,h,⟨_,[],rfl,c,rfl⟩,Wk⟩
  |nili=>cases (show u=_ from hv);exact⟨_,h,⟨_,[],rfl,rfl,rfl⟩,Wk⟩
  |map i=>have c:=hv;obtain⟨b,_,rfl⟩:=hv;exact⟨_,h,⟨_,[],rfl,c,rfl⟩,Wk⟩
  |nilmap=>cases (show u=_ from hv);exact⟨_,h,⟨_,[],rfl,rfl,rfl⟩,Wk⟩
  |iter i=>have c:=hv;obtain⟨b,_,rfl⟩:=hv;exact⟨_,h,⟨_,[],rfl,c,rfl⟩,Wk⟩
  |view xs n=>have c:=hv;obtain⟨a,cap,sz,Vs,rfl,_⟩:=hv;exact⟨_,h,⟨_,[],rfl,c,rfl⟩,Wk⟩
  |an i z n j o=>have c:=hv;obtain⟨b,o,rfl,_⟩:=hv;exact⟨_,h,⟨_,[],rfl,c,rfl⟩,Wk⟩
  |Y i z n l hh=>have c:=hv;obtain⟨a,cap,rfl,_⟩:=hv;exact⟨_,h,⟨_,[],rfl,c,rfl⟩,Wk⟩
def nM{agg:Bool}{n:Nat}(h:fits agg n v=true){g:Gh}{w:World}(hv:Ab g w v u):
    u.cells.size=n/\(agg=true->∃vs,u = .agg vs/\vs.size=n)/\(agg=false->u.cells = #[u]/\n=1)/\(∀x∈u.cells.toList,x.oneCell'= true):=by
  have c:∀(agg:Bool),(!agg&&Nat.beq n 1)=true->u.cells = #[u]->u.oneCell'= true->u.cells.size=n/\(agg=true->∃vs,u = .agg vs/\vs.size=n)/\(agg=false->u.cells = #[u]/\n=1)/\(∀x∈u.cells.toList,x.oneCell'= true):=Xw
  cases v with
  |agg cs=>
    obtain⟨vs,rfl,h1,h2⟩:=hv;simp only[fits,Bool.and_eq_true]at h;have h3:cs.length=n:=Nat.eq_of_beq_eq_true h.2;have h4:vs.size=n:=by have:=h1.length;simp at this;omega
    refine⟨h4,λ_=>⟨vs,rfl,h4⟩,λe=> ?_,h2⟩;simp_all
  |undef=>cases h
  |tup cs=>cases h
  |slice xs t=>obtain⟨a,cap,sz,Vs,rfl,_⟩:=hv;exact c agg h rfl rfl
  |ptr i o=>obtain⟨b,_,rfl⟩:=hv;exact c agg h rfl rfl
  |ab x=>obtain⟨b,o,V,rfl,_⟩:=hv;exact c agg h rfl rfl
  |fn f a b=>obtain⟨vs,ws,rfl,_⟩:=hv;exact c agg h rfl rfl
  |iface t x=>obtain⟨y,rfl,_⟩:=hv;exact c agg h rfl rfl
  |map i=>obtain⟨b,_,rfl⟩:=hv;exact c agg h rfl rfl
  |iter i=>obtain⟨b,_,rfl⟩:=hv;exact c agg h rfl rfl
  |view xs n=>obtain⟨a,cap,sz,Vs,rfl,_⟩:=hv;exact c agg h rfl rfl
  |Y i z n l hh=>obtain⟨a,cap,rfl,_⟩:=hv;exact c agg h rfl rfl
  |an i z n j o=>obtain⟨b,o,rfl,_⟩:=hv;exact c agg h rfl rfl
  |bool b=>cases (show u=_ from hv);exact c agg h rfl rfl
  |int i n=>cases (show u=_ from hv);exact c agg h rfl rfl
  |str s=>cases (show u=_ from hv);exact c agg h rfl rfl
  |nilp=>cases (show u=_ from hv);exact c agg h rfl rfl
  |praw a=>cases (show u=_ from hv);exact c agg h rfl rfl
  |nilfn=>cases (show u=_ from hv);exact c agg h rfl rfl
  |nili=>cases (show u=_ from hv);exact c agg h rfl rfl
  |nilmap=>cases (show u=_ from hv);exact c agg h rfl rfl
def Ek{α:Type}:∀(vs cs:List AV) (k:List AV->Option α) (r:α),Ci.go vs cs k=some r->vs.length<=cs.length/\k (vs++cs.drop vs.length)=some r
  |[],cs,k,r,h=>⟨Nat.zero_le _,by simpa [Ci.go]using h⟩
  |v::vs,c::cs,k,r,h=>by have:=Ek vs cs _ r h;simp_all
  |v::vs,[],k,r,h=>Wu
def tG{α:Type}:∀(n:Nat) (vs cs:List AV) (k:List AV->Option α) (r:α),Ci n vs cs k=some r->
    n+vs.length<=cs.length/\k (cs.take n++vs++cs.drop (n+vs.length))=some r
  |0,vs,cs,k,r,h=>by have:=Ek vs cs k r h;simp_all
  |n+1,vs,c::cs,k,r,h=>by have:=tG n vs cs _ r h;grind
  |n+1,vs,[],k,r,h=>Wu
def HP{α:Type}:∀(i:Nat) (B:List Ob) (f:Ob->(Ob->Option α)->Option α) (k:List Ob->Option α) (r:α),To i B f k=some r->
    ∃o,B[i]? =some o/\f o (λa=>k (B.set i a))=some r
  |0,o::B,f,k,r,h=>⟨o,rfl,h⟩
  |n+1,o::B,f,k,r,h=>by obtain⟨b,h1,h2⟩:=HP n B f _ r h;simp_all
  |0,[],f,k,r,h=>by cases h
  |n+1,[],f,k,r,h=>Wu
theorem eX{α β:Type}:∀(B:List β) (o:β) (k:List β->Option α) (r:α),kU B o k=some r->k (B++[o])=some r
  |[],o,k,r,h=>h
  |x::B,o,k,r,h=>eX B o _ r h
theorem dG{l:List α}{n:Nat}(h:dM l=some n):l.length=n:=by unfold dM at h;split at h<;>cases h<;>rfl
section
variable {g:Gh} {H:St} {w:World}
def dN(w:World)(o:Obj):World:={ w with heap:=w.heap.push o }
theorem cO(w:World)(o:Obj){b:Nat}(h:b<w.heap.size):(dN w o).heap[b]? =w.heap[b]? :=by show (w.heap.push o)[b]? =_;grind
theorem rW(w:World)(o:Obj):(dN w o).heap[w.heap.size]? =some o:=by show (w.heap.push o)[w.heap.size]? =_;simp
theorem kF(w:World)(o:Obj):(dN w o).heap.size=w.heap.size+1:=by simp[dN]
theorem cF{w w': World}{b:Nat}(h:w'.heap[b]? =w.heap[b]?):w'.cell? ⟨b,o,none⟩=w.cell? ⟨b,o,none⟩/\w'.frozen? ⟨b,o,none⟩=w.frozen? ⟨b,o,none⟩:=
  ⟨World.cell?_of_block (a:=⟨b,o,none⟩) h,World.frozen?_of_block (a:=⟨b,o,none⟩) h⟩
def Inv.be(X:Inv g H w){b:Nat}(hb:b∈g.bx):b<w.heap.size:=by
  obtain⟨i,hi', rfl⟩:=List.getElem_of_mem hb;have hlt:i<H.B.length:=by rw[<-X.lenB];exact hi'
  exact(X.ob i _ _ (List.getElem?_eq_getElem hi') (List.getElem?_eq_getElem hlt)).lt
theorem Inv.bc(X:Inv g H w){k:Nat}(hk:g.tk[k]? =some r){b o:Nat}(a:r.az b o):b<w.heap.size:=by
  obtain⟨v,hv⟩:=(X.tkz k r hk b o a).2.2.1;unfold World.cell? at hv;cases hb:w.heap[b]? with
  |none=>simp[hb]at hv
  |some x=>exact(Array.getElem?_eq_some_iff.1 hb).1
def NK(X:Inv g H w)(o:Obj)(a:∀(i b:Nat),g.bx[i]? =some b->g'.bx[i]? =some b)(c:∀b o,g.im b o->g'.im b o)(d:g'.tk=g.tk):Le g w g' (dN w o):=
  ⟨λb e h=>⟨c b e h,(cF (cO w o (X.imlt b e h))).1⟩,a,λk r h=>⟨r,by rw[d];exact h, .inl rfl⟩⟩
def Mc(X:Inv g H w)(o:Obj)(ob:Ob)(m:∀(g': Gh),Le g w g' (dN w o)->BJ g' (dN w o) w.heap.size ob):
    Ar g w ⟨g.bx++[w.heap.size],g.tk,g.im⟩ (dN w o)/\Inv ⟨g.bx++[w.heap.size],g.tk,g.im⟩ ⟨H.B++[ob],H.T⟩ (dN w o):=by
  have d:Le g w ⟨g.bx++[w.heap.size],g.tk,g.im⟩ (dN w o):=NK X o (λi b h=>by have:=(List.getElem?_eq_some_iff.1 h).1;simpa [getElem?_append_left this]using h) (λ_ _ h=>h) rfl;refine⟨⟨d,by rw[kF];omega,rfl,rfl,rfl,λb hb _ _=>cO w o hb,λb c hb _ _=>cF (cO w o hb),λb c h => .inl h,λb hb=> ?_,λk r h b c f => .inr ⟨r,h,f⟩⟩, ?_⟩
  · grind
  · refine⟨by simp[X.lenB],X.lenT,λi b j h1 h2=> ?_, ?_,λb hb c h=> ?_,λk t r hk ht=>(X.tok k t r hk ht).mono d λb c f=>(cF (cO w o (X.bc hk f))).1,λk r hk b c f=> ?_,X.tkd,λb c h=>by have:=X.imlt b c h;rw[kF];omega,X.gl.le d⟩
    · by_cases e:i<g.bx.length
      · have l:i<H.B.length:=by rw[<-X.lenB];exact e
        simp only[getElem?_append_left e]at h1;simp only[getElem?_append_left l]at h2;exact(X.ob i b j h1 h2).mono d (cO w o (X.be (List.mem_of_getElem? h1)))
      · have hlt:=(List.getElem?_eq_some_iff.1 h1).1;simp only[length_append,length_cons,List.length_nil]at hlt;have e1:i=g.bx.length:=om
        subst e1;simp only[List.getElem?_append_right (le_refl _),Nat.sub_self,List.getElem?_cons_zero,Option.some.injEq]at h1;rw[X.lenB]at h2;simp_all
    · rw[List.nodup_append];refine⟨X.nodup,Wa,λa ha b hb e=> ?_⟩;simp at hb;have:=X.be ha;omega
    · simp only[mem_append,List.mem_singleton]at hb;rcases hb with hb|rfl
      · exact X.noim b hb c h
      · have:=X.imlt _ c h;omega
    · obtain⟨h1,h2,h3,h4⟩:=X.tkz k r hk b c f;have hb:=X.bc hk f;have O:=cF (o:=c) (cO w o hb);grind
def FM(X:Inv g H w)(cells:Array Value)(T:TypeId)(n:Nat)(hn:n<=cells.size):
    Ar g w ⟨g.bx,g.tk,λb o=>g.im b o\/(b=w.heap.size/\o<n)⟩ (dN w (.cells cells T))/\Inv ⟨g.bx,g.tk,λb o=>g.im b o\/(b=w.heap.size/\o<n)⟩ H (dN w (.cells cells T)):=by
  have c:Le g w ⟨g.bx,g.tk,λb o=>g.im b o\/(b=w.heap.size/\o<n)⟩ (dN w (.cells cells T)):=NK X _ (λ_ _ h=>h) (λ_ _ h => .inl h) rfl;refine⟨⟨c,by rw[kF];omega,rfl,rfl,rfl,λb hb _ _=>cO w _ hb,λb a hb _ _=>cF (cO w _ hb),λb a h=> ?_,λb hb => .inl hb,λk r h b a d => .inr ⟨r,h,d⟩⟩, ?_⟩
  · grind
  · refine⟨X.lenB,X.lenT,λi b e h1 h2=>(X.ob i b e h1 h2).mono c (cO w _ (X.be (List.mem_of_getElem? h1))),X.nodup,λb hb a h=> ?_,λk t r hk ht=>(X.tok k t r hk ht).mono c λb a d=>(cF (cO w _ (X.bc hk d))).1,λk r hk b a d=> ?_,X.tkd,λb a h=> ?_,X.gl.le c⟩
    · rcases h with h|⟨rfl,_⟩
      · exact X.noim b hb a h
      · have:=X.be hb;omega
    · obtain⟨h1,h2,h3,h4⟩:=X.tkz k r hk b a d;have hb:=X.bc hk d;have O:=cF (o:=a) (cO w (.cells cells T) hb);grind
    · rw[kF];rcases h with h|⟨rfl,_⟩
      · have:=X.imlt b a h;omega
      · omega
theorem dW(w:World)(cells:Array Value)(T:TypeId)(o:Nat):(dN w (.cells cells T)).cell? ⟨w.heap.size,o,none⟩=cells[o]? :=by unfold World.cell?;rw[rW];simp
def j9(w:World)(cells:Array Value)(T:TypeId)(o:Nat):(dN w (.cells cells T)).frozen? ⟨w.heap.size,o,none⟩=false:=by unfold World.frozen?;rw[rW];simp
def tH(w:World)(b:Nat)(J:Array Value)(T:TypeId):World:={ w with heap:=w.heap.setIfInBounds b (.cells J T (0,0)) }
def QM(w:World){b:Nat}(h:b<w.heap.size)(J:Array Value)(T:TypeId):(tH w b J T).heap[b]? =some (.cells J T (0,0)):=by show (w.heap.setIfInBounds b _)[b]? =_;simp_all
theorem pJ(w:World){b c:Nat}(h:c≠b)(J:Array Value)(T:TypeId):(tH w b J T).heap[c]? =w.heap[c]? :=by show (w.heap.setIfInBounds b _)[c]? =_;grind
def QN(X:Inv g H w){i b:Nat}(hb:g.bx[i]? =some b){cs:List AV}(n:AL g w cs J.toList)(h1:∀u∈J.toList,u.oneCell'= true){m:List AV}(p:H.B[i]? =some (.cells m)):
    Ar g w g (tH w b J T)/\Inv g ⟨H.B.set i (.cells cs),H.T⟩ (tH w b J T):=by
  have hlt:=X.be (List.mem_of_getElem? hb);have a:=List.mem_of_getElem? hb;have d:Le g w g (tH w b J T):=⟨λc o h=>by
    have f:c≠b:=λe=>X.noim b a o (e▸h)
    exact⟨h,(cF (pJ w f J T)).1⟩,λ_ _ h=>h,λk r h=>⟨r,h, .inl rfl⟩⟩
  refine⟨⟨d,by simp[tH],rfl,rfl,rfl,λc O hn _=>pJ w (λe=>hn XA) J T,λc o O hn _=>cF (pJ w (λe=>hn XA) J T),λ_ _ h => .inl h,λ_ h => .inl h,λk r h c o l => .inr ⟨r,h,l⟩⟩, ?_⟩;refine⟨by simp[X.lenB],X.lenT,λj c ob h2 h3=> ?_,X.nodup,X.noim,λk t r hk ht=>(X.tok k t r hk ht).mono d λc o l=>(cF (pJ w (λe=>(X.tkz k r hk c o l).2.1 XA) J T)).1,λk r hk c o l=> ?_,X.tkd,λc o h=>by simpa [tH]using X.imlt c o h,X.gl.le d⟩
  · by_cases e:j=i
    · subst e;rw[hb]at h2;cases h2;have hj:j<H.B.length:=(List.getElem?_eq_some_iff.1 p).1;simp only[List.getElem?_set_self hj,Option.some.injEq]at h3;subst h3;exact⟨J,T,QM w hlt J T,AL.mono d _ _ n,h1⟩
    · simp only[List.getElem?_set_ne (Ne.symm e)]at h3;have f:c≠b:=by intro q;subst q;have:=(List.getElem?_inj (List.getElem?_eq_some_iff.1 h2).1 X.nodup).1 (h2.trans hb.symm);exact e this
      exact(X.ob j c ob h2 h3).mono d (pJ w f J T)
  · obtain⟨h2,h3,h4,v⟩:=X.tkz k r hk c o l;have f:c≠b:=λe=>h3 (e▸a)
    have O:=cF (o:=o) (pJ w f J T);simp_all
end
section tools
variable {P:Program} [Lay P]
omit [Lay P] in
theorem rX{t:TypeId}{i:TypeInfo}(h:P.info? t=some i)(w:World):(typeInfo t).run P w = .ok i w:=by simp[typeInfo,h]
theorem FN{t:TypeId}{b:TI}(h:ty? P t=some b)(w:World):(isAgg t).run P w = .ok b.agg w:=by obtain⟨a,d,z,h1,h2,h3,h4,c,e,_⟩:=(eK h).ex;unfold isAgg;simp only[Sem.run_bind,run_underlying h2,Result.andThen];rw[<-c];cases d<;>rfl
theorem cZ{t:TypeId}{b:TI}(h:ty? P t=some b)(w:World):(sizeOf t).run P w = .ok b.size w:=by obtain⟨a,d,z,h1,h2,h3,h4,c,e,_⟩:=(eK h).ex;unfold sizeOf;simp only[Sem.run_bind,rX h1,Result.andThen];simp_all
def nQ{t:TypeId}{c:TI}(h:ty? P t=some c)(w:World):∃z,(zeroValue t).run P w = .ok z w/\qL z=c.zero/\z.cells.size=c.size/\∀v∈z.cells.toList,v.oneCell'= true:=by obtain⟨e,d,z,h1,h2,h3,h4,j,k,l,g,i,a,f,b,_⟩:=(eK h).ex;refine⟨z, ?_,i,a,List.all_eq_true.1 b⟩;unfold zeroValue;simp only[Sem.run_bind,rX h1,Result.andThen,g];rfl
theorem eO(b o n:Nat):(⟨b,o,none⟩:Addr).add n=⟨b,o+n,none⟩:=by simp[Addr.add]
theorem lY{t:TypeId}{a:TI}(h:ty? P t=some a){w:World}{b:Nat}{V:Value}(O:∀(j:Nat) (u:Value),V.cells[j]? =some u->w.cell? ⟨b,o+j,none⟩=some u)
    (h1:a.agg=true->∃vs,V = .agg vs/\vs.size=a.size) (h2:a.agg=false->V.cells = #[V]):(loadVar t ⟨b,o,none⟩).run P w = .ok V w:=by
  unfold loadVar;simp only[Sem.run_bind,FN h,Result.andThen];cases e:a.agg with
  |true=>obtain⟨vs,rfl,hs⟩:=h1 e;simp only[if_true,Sem.run_bind,cZ h,Result.andThen];have:=run_loadCells_list (P:=P) w ⟨b,o,none⟩ vs.toList (λj u hj=>by rw[eO];exact O j u (by simpa [Value.cells]using hj));simp_all
  |false=>have h3:=O 0 V (by rw[h2 e];rfl);simp_all
end tools
section rules
variable {P:Program} [Lay P] {A:Array Oper} {G:Bool} {K:AX->AE->St->Prop} {C:List Oper} {I:List Ak} {s:AE} {H:St}
variable {d:Tmp} {R:TypeId} {D:String} {S:Array Edge}
def op1{o:Oper}(Y:ev? s x=some v){g:Gh}{w:World}{a:Act}(b:x∈o.op.operands.toList)(c:∀x,x∈o.op.operands.toList->Ab g w (ev s x) (a.eval x)):Ab g w v (a.eval x):=by have:=c x b;rwa [pR Y]at this
def QO{y:AV}{c:TI}(hT:ty? P T=some c)(Y:ev? s x=some (.ab y))(hf:fits c.agg c.size y=true)(k:AD P A G K C (.pure::I) ((d,y)::s) H):
    AD P A G K (⟨some d, .load T x,R,D,S,none⟩::C) I s H:=
  bT rfl (eZ λg w a i=>by have h1:=op1 Y Wd i;obtain⟨b,o,V,e,h2,h3⟩:=h1;obtain⟨l,f,h,m⟩:=nM hf h3;refine⟨V, ?_,h3⟩;simp only[execOp,e,Instr.loadAt,Instr.sureAddr,Sem.run_bind,Sem.run_pure,Result.andThen];rw[lY hT (λj u hj=>(h2 j u hj).2.1) f (λe=>(h e).1)]) k
def Kn{P:Program}[Lay P]{H:St}{i a b:Nat}{cs:List AV}{c:TI}{g:Gh}{w:World}(hT:ty? P T=some c)(X:Inv g H w)(hb:g.bx[i]? =some b)(o:H.B[i]? =some (.cells cs))(hv:cut c.agg c.size a cs=some v):
    ∃V,Ab g w v V/\(loadVar T ⟨b,a,none⟩).run P w = .ok V w:=by
    obtain⟨J,T', hh,hl,f⟩:=X.ob i b _ hb o;have d:∀j,w.cell? ⟨b,j,none⟩=J[j]? :=by intro j;unfold World.cell?; rw[hh];simp
    obtain⟨V,p,h2,h3,h4⟩:∃V,Ab g w v V/\(∀(j:Nat) (u:Value),V.cells[j]? =some u->w.cell? ⟨b,a+j,none⟩=some u)/\(c.agg=true->∃vs,V = .agg vs/\vs.size=c.size)/\(c.agg=false->V.cells = #[V]):=by
      rcases vW hv with⟨ha,_,rfl,n⟩|⟨ha,hg⟩
      · have k:=(hl.drop a).take c.size;have l:((J.toList.drop a).take c.size).length=c.size:=by have:=(hl.drop a).length;simp_all
        refine⟨.agg ((J.toList.drop a).take c.size).toArray,⟨_,rfl,by simpa using k,λu m=> ?_⟩,λj u hj=> ?_,λ_=>⟨_,rfl,XV⟩,λe=> ?_⟩
        · grind
        · rw[d];simp only[Value.cells,List.getElem?_toArray,List.getElem?_take,List.getElem?_drop,getElem?_toList]at hj;simp_all
        · simp_all
      · obtain⟨u,m,hr⟩:=hl.get hg;rw[getElem?_toList]at m;have h:=f u (by simpa using Array.mem_of_getElem? m);have O:u.cells = #[u]:=by cases u<;>first|rfl|cases h
        grind
    exact⟨V,p,lY hT h2 h3 h4⟩
def QP{i f:Nat}{cs:List AV}{j:TI}(hT:ty? P T=some j)(Y:ev? s x=some (.ptr i f))(l:H.B[i]? =some (.cells cs))(hv:cut j.agg j.size f cs=some v)
    (k:AD P A G K C (.ri i::I) ((d,v)::s) H):AD P A G K (⟨some d, .load T x,R,D,S,none⟩::C) I s H:=
  bT (t := .ri i) rfl ⟨rfl,λB τ h=>by intro g w a next Q X n hn;have h1:=op1 Y Wd n;obtain⟨b,hb,e⟩:=h1;obtain⟨V,m,c⟩:=Kn (H:=⟨B,τ⟩) hT X hb (h.trans l) hv;unfold Oper.wp;simp only[execOp,e,Instr.loadAt,Instr.sureAddr,Sem.run_bind,Sem.run_pure,Result.andThen];rw[c];exact hn V w g (fD g w) X m⟩ k
def Pc{f i o n:Nat}{ag:Bool}{v:TI}{r:Nat}(hT:ty? P T=some v)(Y:ev? s x=some (.ptr i h))(hf:v.fields[f]? =some (o,n,ag))(hk:v.kind = .struct)(hn:Nat.blt 0 n=true)
    (hr:h+o=r) (k:AD P A G K C (.pure::I) ((d, .ptr i r)::s) H):AD P A G K (⟨some d, .fieldAddr T x f,R,D,S,none⟩::C) I s H:=
  bT rfl (eZ λg w a ho=>by
    have h1:=op1 Y Wd ho;obtain⟨b,hb,e⟩:=h1;refine⟨.pointer (some ⟨b,h+o,none⟩), ?_,⟨b,hb,by rw[hr]⟩⟩;obtain⟨a0,y,z,t1,t2,t3,t4,t5,t6,t7,t8,t9,a5,t,a6,u⟩:=(eK hT).ex;have hd:∃fs,y = .struct fs:=by rw[hk]at t3;cases y<;>first|exact⟨_,rfl⟩|cases t3
    obtain⟨fs,rfl⟩:=hd;rw[<-t]at hf;simp only[oB,List.getElem?_map,Option.map_eq_some_iff,Prod.mk.injEq]at hf;obtain⟨l,c,rfl,hs,_⟩:=hf;rw[getElem?_toList]at c;have j:=u fs rfl l Xj;have p:(sizeOf l.type).run P w = .ok n w:=by
      unfold sizeOf;cases hi': P.info? l.type with
      |none=>rw[hi']at j;simp at j
      |some q=>
        have:P.cellsOf l.type=q.size:=XJ
        simp only[Sem.run_bind,rX hi', Result.andThen];simp_all
    have m:n≠0:=XN
    simp only[execOp,e,Instr.fieldAt,Sem.run_bind,run_underlying t2,Result.andThen,c,Instr.sureAddr,Sem.run_pure,fieldPlace,p,if_neg m,eO]) k
def Pd{f n:Nat}{ag:Bool}{ti:TI}{cs:List AV}{y:AV}(hT:ty? P T=some ti)(Y:ev? s x=some (.ab (.agg cs)))(hf:ti.fields[f]? =some (o,n,ag))(hk:ti.kind = .struct)(hn:Nat.blt 0 n=true)
    (hy:cut ag n o cs=some y) (k:AD P A G K C (.pure::I) ((d, .ab y)::s) H):AD P A G K (⟨some d, .fieldAddr T x f,R,D,S,none⟩::C) I s H:=
  bT rfl (eZ λg w a ho=>by
    have h1:=op1 Y Wd ho;obtain⟨b,h,V,e,hm,vs,rfl,hl,l⟩:=h1;refine⟨.pointer (some ⟨b,h+o,none⟩), ?_, ?_⟩
    · obtain⟨a7,dd,z,t1,t2,t3,t4,t5,t6,t7,t8,t9,ab,a0,ac,a1⟩:=(eK hT).ex;have hd:∃fs,dd = .struct fs:=by rw[hk]at t3;cases dd<;>first|exact⟨_,rfl⟩|cases t3
      obtain⟨fs,rfl⟩:=hd;rw[<-a0]at hf;simp only[oB,List.getElem?_map,Option.map_eq_some_iff,Prod.mk.injEq]at hf;obtain⟨m,c,rfl,hs,_⟩:=hf;rw[getElem?_toList]at c;have i:=a1 fs rfl m Xj;have t:(sizeOf m.type).run P w = .ok n w:=by
        unfold sizeOf;cases hi': P.info? m.type with
        |none=>rw[hi']at i;simp at i
        |some v=>
          have:P.cellsOf m.type=v.size:=XJ
          simp only[Sem.run_bind,rX hi', Result.andThen];simp_all
      have r:n≠0:=XN
      simp only[execOp,e,Instr.fieldAt,Sem.run_bind,run_underlying t2,Result.andThen,c,Instr.sureAddr,Sem.run_pure,fieldPlace,t,if_neg r,eO]
    · rcases vW hy with⟨ha,_,rfl,a5⟩|⟨ha,hg⟩
      · refine⟨b,h+o, .agg ((vs.toList.drop o).take n).toArray,rfl,λj u hj=> ?_,⟨_,rfl,by simpa using (hl.drop o).take n,λu p=> ?_⟩⟩
        · simp only[Value.cells,List.getElem?_toArray,List.getElem?_take,List.getElem?_drop,getElem?_toList]at hj;split at hj
          · have:=hm (o+j) u hj;grind
          · cases hj
        · grind
      · obtain⟨u,p,hr⟩:=hl.get hg;rw[getElem?_toList]at p;have q:=l u (by simpa using Array.mem_of_getElem? p);have O:u.cells = #[u]:=by cases u<;>first|rfl|cases q
        refine⟨b,h+o,u,rfl,λj u' hj=> ?_,hr⟩;rw[O]at hj;cases j with
        |zero=>simp at hj;subst hj;exact hm o u p
        |succ j=>simp at hj) k
def Tt{f n:Nat}{p:Bool}{ti:TI}{cs:List AV}{y:AV}(hT:ty? P T=some ti)(Y:ev? s x=some (.agg cs))(hf:ti.fields[f]? =some (o,n,p))(hk:ti.kind = .struct)
    (hy:cut p n o cs=some y) (k:AD P A G K C (.pure::I) ((d,y)::s) H):AD P A G K (⟨some d, .field T x f,R,D,S,none⟩::C) I s H:=
  bT rfl (eZ λg w a ho=>by
    have h1:=op1 Y Wd ho;obtain⟨vs,e,hl,m⟩:=h1;obtain⟨a4,dd,z,t1,t2,t3,t4,t5,t6,t7,t8,t9,a8,v,a9,a0⟩:=(eK hT).ex;have hd:∃fs,dd = .struct fs:=Wi
    obtain⟨fs,rfl⟩:=hd;rw[<-v]at hf;simp only[oB,List.getElem?_map,Option.map_eq_some_iff,Prod.mk.injEq]at hf;obtain⟨b,c,rfl,hs,l⟩:=hf;rw[getElem?_toList]at c;have h:=a0 fs rfl b Xj;have r:(sizeOf b.type).run P w = .ok n w:=by
      unfold sizeOf;cases hi': P.info? b.type with
      |none=>rw[hi']at h;simp at h
      |some t=>
        have:P.cellsOf b.type=t.size:=XJ
        simp only[Sem.run_bind,rX hi', Result.andThen];simp_all
    have j:(isAgg b.type).run P w = .ok p w:=by
      cases i:P.underlying b.type with
      |none=>rw[i]at h;simp at h
      |some q=>rw[i]at l;unfold isAgg;simp only[Sem.run_bind,run_underlying i,Result.andThen];rw[<-l];cases q<;>rfl
    rcases vW hy with⟨ha,_,rfl,a3⟩|⟨ha,hg⟩
    · refine⟨.agg (vs.extract b.offset (b.offset+n)), ?_, ?_⟩
      · simp only[execOp,e,Instr.field,Sem.run_bind,run_underlying t2,Result.andThen,c,asAgg,Sem.run_pure,part,j,ha,if_true,r]
      · have he:(vs.extract b.offset (b.offset+n)).toList=(vs.toList.drop b.offset).take n:=by simp_all
        exact⟨_,rfl,by rw[he];exact(hl.drop _).take n,λu i=>m u (by rw[he]at i;exact List.mem_of_mem_drop (List.mem_of_mem_take i))⟩
    · obtain⟨u,i,hr⟩:=hl.get hg;rw[getElem?_toList]at i;refine⟨u, ?_,hr⟩;simp only[execOp,e,Instr.field,Sem.run_bind,run_underlying t2,Result.andThen,c,asAgg,Sem.run_pure,part,j,ha,Bool.false_eq_true,if_false,i]) k
def NL{tk:Tk}{n:Int}{h:TI}(hT:ty? P T=some h)(hk:h.kind = .slice)(Y:ev? s x=some (.slice xs tk))(hn:(xs.length:Int)=n)
    (k:AD P A G K C (.pure::I) ((d, .int .i64 n)::s) H):AD P A G K (⟨some d, .call ⟨.builtin .len, #[x], #[T]⟩,R,D,S,none⟩::C) I s H:=
  bT rfl (eZ λg w a l=>by
    have h1:=op1 Y Wj l;obtain⟨p,cap,sz,Vs,e,h2,h3,h4,i,m⟩:=h1;refine⟨.int .i64 xs.length, ?_,by rw[hn];rfl⟩;obtain⟨c,b,z,t1,t2,f,_⟩:=(eK hT).ex;have j:∃e,b = .slice e:=WB
    obtain⟨el,rfl⟩:=j;simp[execOp,resolve,invoke,builtin,Builtin.len_,e,run_underlying t2,goInt,Result.andThen,i.length]) k
def VD{xs:List UInt8}{n:Int}{i:TI}(hT:ty? P T=some i)(hk:i.kind = .string)(Y:ev? s x=some (.str xs))(hn:(xs.length:Int)=n)
    (k:AD P A G K C (.pure::I) ((d, .int .i64 n)::s) H):AD P A G K (⟨some d, .call ⟨.builtin .len, #[x], #[T]⟩,R,D,S,none⟩::C) I s H:=
  bT rfl (eZ λg w a l=>by
    have h1:=op1 Y Wj l;have e:a.eval x = .string ⟨xs.toArray⟩:=h1;refine⟨.int .i64 xs.length, ?_,by rw[hn];rfl⟩;obtain⟨f,c,z,t1,t2,h,_⟩:=(eK hT).ex;have j:c = .string:=by rw[hk]at h;cases c<;>first|rfl|cases h
    subst j;have b:(⟨xs.toArray⟩:ByteArray).size=xs.length:=XF
    simp[execOp,resolve,invoke,builtin,Builtin.len_,e,run_underlying t2,goInt,Result.andThen,b]) k
def Pe{i:Operand}{tk:Tk}{ik:IntKind}{n:Int}{y:AV}{c h:TI}(hT:ty? P T=some c)(hk:c.kind = .slice)(hE:ty? P c.elem=some h)
    (hj:n=(j:Int)) (hy:xs[j]? =some y) (hf:fits h.agg h.size y=true) {g:Gh} {w:World} {a:Act} (h1:Ab g w (.slice xs tk) (a.eval x)) (h2:a.eval i = .int ik n):
    ∃v,(execOp a.eval ⟨some d, .indexAddr T x i,R,D,S,none⟩).run P w = .ok (.value v) w/\Ab g w (.ab y) v:=by
    obtain⟨p,cap,sz,Vs,e,c1,c2,c3,hl,u,c6⟩:=h1;obtain⟨V,l,hr⟩:=hl.get hy;have b:j<Vs.length:=(List.getElem?_eq_some_iff.1 l).1;cases p with
    |none=>have:=(u rfl).1;subst this;simp at b
    |some q=>
      obtain⟨hq,hm⟩:=c6 q rfl;obtain⟨m1,m2⟩:=hm j V l;obtain⟨f1,_⟩:=nM hf hr;obtain⟨m,k,z,t1,t2,t,t4,_⟩:=(eK hT).ex;have hd:∃e,k = .slice e:=by rw[hk]at t;cases k<;>first|exact⟨_,rfl⟩|cases t
      obtain⟨el,rfl⟩:=hd;have f:el=c.elem:=t4;subst f;obtain⟨o,r,qs⟩:=q;cases (show qs=none from hq.resolve_right (λe=>by rw[e]at b;simp at b));refine⟨.pointer (some ⟨o,r+j * sz,none⟩), ?_,⟨o,r+j * sz,V,rfl,m2,hr⟩⟩;rw[<-m1,f1];subst hj;simp[execOp,Instr.indexAt,e,h2,asIntOf,run_underlying t2,Result.andThen,cZ hE,b,eO]
def HS{i:Operand}{tk:Tk}{f:IntKind}{n:Int}{y:AV}{c b:TI}(hT:ty? P T=some c)(hk:c.kind = .slice)(hE:ty? P c.elem=some b)
    (Y:ev? s x=some (.slice xs tk)) (X:ev? s i=some (.int f n)) (hj:n=(j:Int)) (hy:xs[j]? =some y) (hf:fits b.agg b.size y=true)
    (k:AD P A G K C (.pure::I) ((d, .ab y)::s) H):AD P A G K (⟨some d, .indexAddr T x i,R,D,S,none⟩::C) I s H:=
  bT rfl (eZ λg w a e=>by
    have h1:=op1 Y Wd e
    have h2:a.eval i = .int f n:=op1 X Wd e
    exact Pe hT hk hE hj hy hf h1 h2) k
def bJ{i:Operand}{xs:List UInt8}{e:IntKind}{n:Int}{y:UInt8}{ti:TI}(k:AD P A G K C (.pure::I) ((d, .int .u8 (y.toNat:Int))::s) H)(hT:ty? P T=some ti:=by exact rfl)(Y:ev? s x=some (.str xs):=by exact rfl)(X:ev? s i=some (.int e n):=by exact rfl)(hk:ti.kind = .string:=by exact rfl)(hj:n=(j:Int):=by exact rfl)(hy:xs[j]? =some y:=by assumption):AD P A G K (⟨some d, .index T x i,R,D,S,none⟩::C) I s H:=
  bT rfl (eZ λg w a c=>by
    have h1:a.eval x = .string ⟨xs.toArray⟩:=op1 Y Wd c
    have h2:a.eval i = .int e n:=op1 X Wd c
    obtain⟨f,b,z,t1,t2,h,m,_⟩:=(eK hT).ex
    have l:b = .string:=by rw[hk]at h;cases b<;>first|rfl|cases h
    subst l
    refine⟨.int .u8 (y.toNat:Int), ?_,rfl⟩
    subst hj
    have hb:(⟨xs.toArray⟩:ByteArray)[j]? =some y:=by
      have hlt:=(List.getElem?_eq_some_iff.1 hy).1
      rw[getElem?_def]
      have hs:j<(⟨xs.toArray⟩:ByteArray).size:=by simpa [ByteArray.size]using hlt
      rw[dif_pos hs]
      congr 1
      exact(List.getElem?_eq_some_iff.1 hy).2
    simp[execOp,Instr.index,h1,h2,asIntOf,run_underlying t2,Result.andThen,hb]) k
end rules
theorem vZ{w:World}{b:Nat}{a:Array Value}(h:w.heap[b]? =some (.cells a T (0,0)))(J:Array Value):w.setRow b J=tH w b J T:=by unfold World.setRow tH;congr 1;grind
structure B4(w w': World)(b o:Nat)(vs:List Value):Prop where
  size:w'.heap.size=w.heap.size
  os:w'.os=w.os
  tape:w'.tape=w.tape
  output:w'.output=w.output
  block:∀c,c≠b->w'.heap[c]? =w.heap[c]?
  here:∀(j:Nat) (v:Value),vs[j]? =some v->w'.cell? ⟨b,o+j,none⟩=some v
  there:∀p,p<o\/o+vs.length<=p->w'.cell? ⟨b,p,none⟩=w.cell? ⟨b,p,none⟩
  frozen:∀p,w'.frozen? ⟨b,p,none⟩=w.frozen? ⟨b,p,none⟩
theorem y6(w:World)(a:Addr)(v:Value){c:Nat}(h:c≠a.block):(w.setCell a v).heap[c]? =w.heap[c]? :=by grind[World.setCell]
def tI{P:Program}(b:Nat):∀(vs:List Value) (i o:Nat) (w:World),(∀j,j<vs.length->∃v,w.cell? ⟨b,o+i+j,none⟩=some v)->(∀j,j<vs.length->w.frozen? ⟨b,o+i+j,none⟩=false)->(∀v∈vs,v.oneCell'= true)->
    ∃w', (storeCells ⟨b,o,none⟩ vs i).run P w = .ok () w'/\ B4 w w' b (o+i) vs
  |[],i,o,w,_,_,_=>⟨w,rfl,rfl,rfl,rfl,rfl,λ_ _=>rfl,λj v h=>Wm,λ_ _=>rfl,λ_=>rfl⟩
  |v::vs,i,o,w,O,hf,h1=>by
    obtain⟨v0,d⟩:=O 0 Wa;have g:=hf 0 Wa;simp only[add_zero]at d g;have m:(store ((⟨b,o,none⟩:Addr).add i) v).run P w = .ok () (w.setCell ⟨b,o+i,none⟩ v):=by rw[eO,run_store P w _ v _ (h1 v Wa),d];simp[g]
    have hsame:(w.setCell ⟨b,o+i,none⟩ v).cell? ⟨b,o+i,none⟩=some v:=World.cell?_setCell_same w _ v d;have k:∀p,p≠o+i->(w.setCell ⟨b,o+i,none⟩ v).cell? ⟨b,p,none⟩=w.cell? ⟨b,p,none⟩:=λp hp=>World.cell?_setCell_other w _ _ v (by intro e;cases e;exact hp rfl)
    have a:∀p,(w.setCell ⟨b,o+i,none⟩ v).frozen? ⟨b,p,none⟩=w.frozen? ⟨b,p,none⟩:=λp=>Xw
    obtain⟨w', hr,hs⟩:=tI (P:=P) b vs (i+1) o (w.setCell ⟨b,o+i,none⟩ v) (λj hj=>by rw[k _ om];have:=O (j+1) Xl;rwa [show o+i+(j+1)=o+(i+1)+j by omega]at this)
      (λj hj=>by rw[a];have:=hf (j+1) Xl;rwa [show o+i+(j+1)=o+(i+1)+j by omega]at this) (λu l=>h1 u (by simp[l]))
    refine⟨w', ?_,by rw[hs.size];simp[World.setCell],hs.os,hs.tape,hs.output,λc f=>(hs.block c f).trans (y6 w _ v f),λj u l=> ?_,λp hp=> ?_,λp=>(hs.frozen p).trans (a p)⟩
    · simp only[storeCells,Sem.run_bind,m,Result.andThen];exact hr
    · cases j with
      |zero=>simp at l;subst l;rw[add_zero,hs.there (o+i) om];exact hsame
      |succ j=>have:=hs.here j u XV;grind
    · simp only[length_cons]at hp;rw[hs.there p om];grind
section rules
variable {P:Program} [Lay P] {A:Array Oper} {G:Bool} {K:AX->AE->St->Prop} {C:List Oper} {I:List Ak} {s:AE} {H:St}
variable {d:Tmp} {R:TypeId} {D:String} {S:Array Edge}
omit [Lay P] in
def aBq{i:Nat}(Y:ev? s x=some v)(X:dM H.B=some i)(h:kT v (λcs=>kU H.B (.cells cs) some)=some B')
    (k:AD P A G K C (.wb::I) ((d, .ptr i 0)::s) ⟨B', H.T⟩):AD P A G K (⟨some d, .box T x,R,D,S,none⟩::C) I s H:=
  bT (t := .wb) (σ':= ⟨B', H.T⟩) rfl ⟨rfl,λτ=>by
    intro g w a next Q c j hn;have h1:=op1 Y Wd j;obtain⟨cs,h2,h3,h4⟩:=jQ h h1;have e:=eX _ _ _ _ h2;have f:H.B++[.cells cs]=B':= Option.some.inj e;obtain⟨l,m⟩:=Mc c (.cells (a.eval x).cells T) (.cells cs) (λg' b=>⟨_,T,rW w _,AL.mono b _ _ h3,h4⟩);unfold Oper.wp;refine hn _ _ _ l (f▸m) ⟨w.heap.size, ?_,rfl⟩;have:i=g.bx.length:=by rw[c.lenB];exact(dG X).symm
    rw[this];simp⟩ k
def Tu{i:Nat}{e:TI}(hT:ty? P T=some e)(X:dM H.B=some i)(j:kT e.zero (λcs=>kU H.B (.cells cs) some)=some B')
    (k:AD P A G K C (.wb::I) ((d, .ptr i 0)::s) ⟨B', H.T⟩):AD P A G K (⟨some d, .alloc T,R,D,S,none⟩::C) I s H:=
  bT (t := .wb) (σ':= ⟨B', H.T⟩) rfl ⟨rfl,λτ=>by
    intro g w a next Q f p hn;obtain⟨z,hz,c,l,m⟩:=nQ hT w;have h1:Ab g w e.zero z:=by rw[<-c];exact kR g w z
    obtain⟨cs,h2,h3,h4⟩:=jQ j h1;have h:H.B++[.cells cs]=B':= Option.some.inj (eX _ _ _ _ h2);obtain⟨n,o⟩:=Mc f (.cells z.cells T) (.cells cs) (λg' b=>⟨_,T,rW w _,AL.mono b _ _ h3,h4⟩);unfold Oper.wp;simp only[execOp,Instr.alloc,hz,newVar,newRow,newObj,Sem.run_bind,Result.andThen,Sem.run];refine hn _ _ _ n (h▸o) ⟨w.heap.size, ?_,rfl⟩;have:i=g.bx.length:=by rw[f.lenB];exact(dG X).symm
    rw[this];simp⟩ k
def Tv{i c:Nat}{ti:TI}(hT:ty? P T=some ti)(Y:ev? s x=some (.ptr i c))(hy:ev? s y=some v)(hf:fits ti.agg ti.size v=true)
    (hB:To i H.B (λo k=>match o with | .cells cs=>kT v (λvs=>Ci c vs cs (λr=>k (.cells r)))|_=>none) some=some B')
    (k:AD P A G K C (.wi i::I) s ⟨B', H.T⟩):AD P A G K (⟨none, .store T x y,R,D,S,none⟩::C) I s H:=by
  obtain⟨o,l,d⟩:=HP _ _ _ _ _ hB;cases o with
  |map es=>cases d
  |iter s p=>cases d
  |cells cs=>
    obtain⟨h2,a3⟩:=Kf d;obtain⟨j,h5⟩:=tG _ _ _ _ _ h2;have h6:H.B.set i (.cells (cs.take c++yZ v++cs.drop (c+(yZ v).length)))=B':= Option.some.inj h5;refine bT (t := .wi i) (v := .undef) (σ':= ⟨B', H.T⟩) rfl ⟨.cells (cs.take c++yZ v++cs.drop (c+(yZ v).length)),by rw[h6],λB τ h=> ?_⟩ k;intro g w a next Q hI ho hn;obtain⟨b,hb,e⟩:=op1 Y Wd ho;have h1:=op1 hy Wd ho;obtain⟨vs,z,h3,h4⟩:=jQ a3 h1;have a2:vs=yZ v:=Option.some.inj z;rw[<-a2]at j hn;obtain⟨J,T', hh,hl,m⟩:=hI.ob i b _ hb (h.trans l);obtain⟨f1,_⟩:=nM hf h1;have q:(a.eval y).cells.toList.length=vs.length:=h3.length;have a0:J.toList.length=cs.length:=hl.length;have n:=run_storeCells_at P b c T' (a.eval y).cells.toList 0 J w hh (by rw[q];simp at a0;omega) h4;rw[vZ hh,add_zero]at n;have a1:AL g w (cs.take c++vs++cs.drop (c+vs.length)) (J.toList.take c++(a.eval y).cells.toList++J.toList.drop (c+(a.eval y).cells.toList.length)).toArray.toList:=by rw[List.toList_toArray,q];exact((hl.take c).append h3).append (hl.drop _)
    obtain⟨n1,n2⟩:=QN hI hb a1 (λu f=>by
      simp only[mem_append]at f;rcases f with (f|f)|f
      · grind
      · exact h4 u f
      · exact m u (List.mem_of_mem_drop f)) (T:=T') (h.trans l)
    unfold Oper.wp;simp only[execOp,e,Instr.storeAt,Instr.sureAddr,storeVar,Sem.run_bind,Sem.run_pure,Result.andThen,cZ hT,f1,ne_eq,not_true_eq_false,if_false,n];exact hn undef _ g n1 n2 trivial
end rules
def flat(Vs:List Value):List Value:=Vs.flatMap λV=>V.cells.toList
theorem lH(V:Value)(Vs:List Value):flat (V::Vs)=V.cells.toList++flat Vs:=rfl
theorem gY(Us Vs:List Value):flat (Us++Vs)=flat Us++flat Vs:=Yk
theorem cY{sz:Nat}:∀ {Vs:List Value},(∀V∈Vs,V.cells.size=sz)->(flat Vs).length=Vs.length * sz
  |[],_=>by simp[flat]
  |V::Vs,h=>by rw[lH,length_append,cY (λV a=>h V W5),length_cons,succ_mul];grind
theorem vF{sz:Nat}:∀ {Vs:List Value} {i j:Nat} {V:Value},(∀V∈Vs,V.cells.size=sz)->Vs[i]? =some V->j<sz->(flat Vs)[i * sz+j]? =V.cells[j]?
  |V::Vs,0,j,V', h,X,hj=>by simp at X;subst X;have:=h V Wa;rw[lH,getElem?_append_left Wh];simp
  |V::Vs,i+1,j,V', h,X,hj=>by
    have a:=h V Wa;rw[lH,List.getElem?_append_right (by simp[succ_mul];omega)];have e:(i+1) * sz+j-V.cells.toList.length=i * sz+j:=by simp[succ_mul];omega
    rw[e];exact vF (λV a=>h V W5) Xh hj
  |[],i,_,_,_,X,_=>XI
def Td{sz:Nat}{k:Nat}(h:∀V∈Vs,V.cells.size=sz)(hk:(flat Vs)[k]? =some u):∃i j V,Vs[i]? =some V/\V.cells[j]? =some u/\k=i * sz+j:=by
  have hlt:k<Vs.length * sz:=by have:=(List.getElem?_eq_some_iff.1 hk).1;rwa [cY h]at this
  have a:0<sz:=WN
  have X:k/sz<Vs.length:=Nat.div_lt_of_lt_mul (by rwa [Nat.mul_comm]);have he:k=k/sz * sz+k % sz:=by have:=Nat.div_add_mod k sz;rw[Nat.mul_comm]at this;exact this.symm
  refine⟨k/sz,k % sz,Vs[k/sz],List.getElem?_eq_getElem X, ?_,he⟩;rw[<-vF h (List.getElem?_eq_getElem X) (Nat.mod_lt _ a), <-he];exact hk
theorem BA.flat{g:Gh}{w:World}{b sz o:Nat}{Vs:List Value}(a:BA g w b sz o Vs){k:Nat}{u:Value}(hk:(flat Vs)[k]? =some u):g.im b (o+k)/\w.cell? ⟨b,o+k,none⟩=some u/\u.oneCell'= true:=by obtain⟨i,j,V,h1,h2,h3⟩:=Td (sz:=sz) (λV c=>by obtain⟨i,X⟩:=List.getElem?_of_mem c;exact(a i V X).1) hk;have:=(a i V h1).2 j u h2;grind
def fK{g:Gh}{w:World}{b sz o:Nat}(h:∀V∈Vs,V.cells.size=sz)(c:∀(k:Nat) (u:Value),(flat Vs)[k]? =some u->g.im b (o+k)/\w.cell? ⟨b,o+k,none⟩=some u/\u.oneCell'= true):BA g w b sz o Vs:=by
  intro i V X;refine⟨h V (List.mem_of_getElem? X),λj u hj=> ?_⟩;have a:j<sz:=WN
  have:=c (i * sz+j) u (by rw[vF h X a];exact hj);grind
theorem HF:∀(vs:List Value) (a k:Nat) (cs:Array Value),a+k+vs.length<=cs.size->
    ((vs.zipIdx k).foldl (λcs (x:Value×Nat)=>cs.setIfInBounds (a+x.2) x.1) cs).toList=cs.toList.take (a+k)++vs++cs.toList.drop (a+k+vs.length)
  |[],a,k,cs,h=>by simp
  |v::vs,a,k,cs,h=>by
    simp only[length_cons]at h;rw[List.zipIdx_cons,List.foldl_cons,HF vs a (k+1) _ Wh];have hlt:a+k<cs.toList.length:=Wh
    simp only[Array.toList_setIfInBounds,length_cons];rw[show a+(k+1)=(a+k)+1 by omega,List.take_succ_eq_append_getElem Yd,List.take_set_of_le (le_refl _),List.getElem_set_self,List.drop_set_of_lt om];grind
def Ed{α:Type}(yS:Nat->Option (Nat×Nat))(s:AE):List (Nat×Operand)->List AV->(List AV->Option α)->Option α
  |[],cs,k=>k cs
  |(i,x)::C,cs,k=>match yS i with
    |none=>none
    |some (off,size)=>match ev? s x with
      |none=>none
      |some v=>kT v λvs=>bif Nat.beq vs.length size then Ci off vs cs (λcs'=> Ed yS s C cs' k) else none
def sY{α:Type}{yS:Nat->Option (Nat×Nat)}{s:AE}{g:Gh}{w:World}{a:Act}:∀(ps:List (Nat×Operand)) (cs:List AV) (cells:Array Value) (k:List AV->Option α) (r:α),Ed yS s ps cs k=some r->
    (∀p∈ps,Ab g w (ev s p.2) (a.eval p.2))->AL g w cs cells.toList->(∀u∈cells.toList,u.oneCell'= true)->
    ∃e b,Instr.fill yS cells (ps.map λp=>(p.1,a.eval p.2))=some b/\b.size=cells.size/\AL g w e b.toList/\(∀u∈b.toList,u.oneCell'= true)/\k e=some r
  |[],cs,cells,k,r,h,_,hl,h1=>⟨cs,cells,rfl,rfl,hl,h1,h⟩
  |(i,x)::C,cs,cells,k,r,h,hp,hl,h1=>by
    unfold Ed at h
    cases hpl:yS i with
    |none=>rw[hpl]at h;cases h
    |some os=>
      obtain⟨d,size⟩:=os
      simp only[hpl]at h
      cases hv:ev? s x with
      |none=>rw[hv]at h;cases h
      |some v=>
        simp only[hv]at h
        have o:Ab g w v (a.eval x):=by have:=hp (i,x) Wa;rwa [pR hv]at this
        obtain⟨vs,h2,h3,h4⟩:=jQ h o
        cases hb:Nat.beq vs.length size with
        |false=>rw[hb]at h2;cases h2
        |true=>
          rw[hb]at h2
          obtain⟨h5,h6⟩:=tG _ _ _ _ _ h2
          have z:vs.length=size:=Nat.eq_of_beq_eq_true hb
          have n:(a.eval x).cells.size=vs.length:=by simpa using h3.length
          have a5:cells.size=cs.length:=XC
          have q:=HF (a.eval x).cells.toList d 0 cells Wh
          let c:=(a.eval x).cells.zipIdx.foldl (λcs (x:Value×Nat)=>cs.setIfInBounds (d+x.2) x.1) cells
          have j:c.toList=cells.toList.take d++(a.eval x).cells.toList++cells.toList.drop (d+vs.length):=by
            show ((a.eval x).cells.zipIdx.foldl _ cells).toList=_
            rw[<-Array.foldl_toList,Array.toList_zipIdx]
            simp_all
          have m:c.size=cells.size:=by
            have:=congrArg List.length j
            grind
          have y:AL g w (cs.take d++vs++cs.drop (d+vs.length)) c.toList:=by
            rw[j]
            exact((hl.take d).append h3).append (hl.drop _)
          have l:∀u∈c.toList,u.oneCell'= true:=by
            intro u f
            rw[j]at f
            simp only[mem_append]at f
            rcases f with (f|f)|f
            · exact h1 u (List.mem_of_mem_take f)
            · exact h4 u f
            · exact h1 u (List.mem_of_mem_drop f)
          obtain⟨e,b,e1,e2,e3,e4,e5⟩:=sY C _ c k r h6 (λp t=>hp p (by simp[t])) y l
          refine⟨e,b, ?_,e2.trans m,e3,e4,e5⟩
          simp only[List.map_cons,Instr.fill,hpl]
          rw[if_neg (by simp only[n,z,ne_eq,not_true_eq_false,decide_false,Bool.false_or,decide_eq_true_eq];omega)]
          exact e1
section rules
variable {P:Program} [Lay P] {A:Array Oper} {G:Bool} {K:AX->AE->St->Prop} {C:List Oper} {I:List Ak} {s:AE} {H:St}
variable {d:Tmp} {R:TypeId} {D:String} {S:Array Edge}
omit [Lay P] in
theorem Ee:∀a:List Field,(∀f∈a,(P.info? f.type).isSome=true)->a.mapM (λf=>(P.info? f.type).map λi=>(f.offset,i.size))=some (a.map λf=>(f.offset,P.cellsOf f.type))
  |[],_=>rfl
  |f::a,h=>by
    have h1:=h f Wa;cases X:P.info? f.type with
    |none=>rw[X]at h1;cases h1
    |some i=>rw[List.mapM_cons,Ee a (λf hf=>h f (by simp[hf]))];simp[X,Program.cellsOf]
def IV(fields:List (Nat×Nat×Bool))(i:Nat):Option (Nat×Nat):=
  match fields[i]? with
  |some (o,n,_)=>some (o,n)
  |none=>none
def Te{b:Array (Nat×Operand)}{c:TI}{e:List AV}(hT:ty? P T=some c)(hk:c.kind = .struct)(hz:c.zero = .agg e)(hv:Ed (IV c.fields) s b.toList e (λcs=>some (.agg cs))=some v)
    (k:AD P A G K C (.pure::I) ((d,v)::s) H):AD P A G K (⟨some d, .build T b,R,D,S,none⟩::C) I s H:=
  bT rfl (eZ λg w a ho=>by
    obtain⟨r,q,z,t1,t2,t,t4,t5,t6,t7,t8,t9,a3,n,a4,o⟩:=(eK hT).ex;have hd:∃fs,q = .struct fs:=by rw[hk]at t;cases q<;>first|exact⟨_,rfl⟩|cases t
    obtain⟨fs,rfl⟩:=hd;have m:Ab g w (.agg e) z:=by rw[<-hz, <-t9];exact kR g w z
    obtain⟨zv,rfl,l,j⟩:=m;obtain⟨cs', cells', e1,e2,u,y,e5⟩:=sY (g:=g) (w:=w) (a:=a) b.toList e zv _ v hv (λp hp=>ho p.2 WG) l j;have h:v = .agg cs':= (Option.some.inj e5).symm;subst h;refine⟨.agg cells', ?_,⟨cells', rfl,u,y⟩⟩;have hb:P.built T (b.map λ(i,x)=>(i,a.eval x)).toList=some cells':= by
      unfold Program.built;simp only[t1,t2,t8,Ee fs.toList (λf hf=>(o fs rfl f hf).1)];rw[<-e1];congr 1
      · funext i;rw[<-n];unfold IV oB;grind
      · simp
    simp only[execOp,Sem.run_bind,run_build w T _ cells' hb,Result.andThen];rfl) k
def Ds{α:Type}(agg:Bool)(n:Nat):Nat->List AV->(List AV->Option α)->Option α
  |0,_,k=>k []
  |m+1,cs,k=>match cut agg n 0 cs with
    |some x=>Ds agg n m (HO n cs) λr=>k (x::r)
    |none=>none
def vG{α:Type}{agg:Bool}{n:Nat}(h1:agg=false->n=1){g:Gh}{w:World}:∀(m:Nat) (cs:List AV) (J:List Value) (k:List AV->Option α) (r:α),Ds agg n m cs k=some r->AL g w cs J->(∀u∈J,u.oneCell'= true)->
    ∃xs Vs,k xs=some r/\Vs.length=m/\AL g w xs Vs/\(∀V∈Vs,V.cells.size=n)/\flat Vs=J.take (m * n)
  |0,cs,J,k,r,h,hl,f=>⟨[],[],h,rfl,rfl,Wa,Yk⟩
  |m+1,cs,J,k,r,h,hl,f=>by
    unfold Ds at h;cases O:cut agg n 0 cs with
    |none=>rw[O]at h;cases h
    |some x=>
      simp only[O]at h;rw[Cj]at h;obtain⟨xs,Vs,e1,l,o,q,p⟩:=vG h1 m _ (J.drop n) _ r h (hl.drop n) (λu b=>f u (List.mem_of_mem_drop b));rcases vW O with⟨ha,_,rfl,e⟩|⟨ha,hg⟩
      · have d:=hl.take n;have j:(J.take n).length=n:=by rw[d.length,List.length_take];simp at e;omega
        refine⟨_, .agg (J.take n).toArray::Vs,e1,by simp[l],⟨_,_,rfl,⟨_,rfl,by simpa using d,λu b=>f u (List.mem_of_mem_take YC)⟩,o⟩, ?_, ?_⟩
        · intro V a;simp only[List.mem_cons]at a;rcases a with rfl|a
          · simpa [Value.cells]using j
          simp_all
        · rw[lH,p,succ_mul,Nat.add_comm,List.take_add];simp[Value.cells]
      · obtain⟨u,b,hr⟩:=hl.get hg;have hn:=h1 ha;subst hn;cases J with
        |nil=>simp at b
        |cons v J=>
          simp at b;subst b;have i:=f v Wa;have c:v.cells = #[v]:=by cases v<;>first|rfl|cases i
          refine⟨_,v::Vs,e1,by simp[l],⟨_,_,rfl,hr,o⟩, ?_, ?_⟩
          · intro V a;simp only[List.mem_cons]at a;rcases a with rfl|a
            · rw[c];rfl
            · exact q V a
          · rw[lH,p,c];simp
def IW{len:Nat}{b:Array (Nat×Operand)}{ti c:TI}(hT:ty? P T=some ti)(hk:ti.kind = .slice)(hE:ty? P ti.elem=some c)(q:(c.agg||Nat.beq c.size 1)=true)(n:Nat.ble (len * c.size) 16777216=true)(a2:Nat.ble len 16777216=true)
    (hv:Ed (λi=>some (i * c.size,c.size)) s b.toList (List.replicate (len * c.size) .undef) (λcs=>Ds c.agg c.size len cs λxs=>some (.slice xs .full))=some v)
    (k:AD P A G K C (.pure::I) ((d,v)::s) H):AD P A G K (⟨some d, .buildSlice T len b,R,D,S,none⟩::C) I s H:=
  bT (t := .pure) rfl ⟨rfl,λτ=>by
    intro g w a next Q hI ho hn
    obtain⟨ag,dd,z0,t1,t2,t3,t4,_⟩:=(eK hT).ex
    have hd:∃e,dd = .slice e:=Wi
    obtain⟨el,rfl⟩:=hd
    have ab:el=ti.elem:=t4
    subst ab
    obtain⟨z,hz,av,aw,ax⟩:=nQ hE w
    let z': Array Value:=if len * c.size=0 then #[] else z.cells
    let o:Array Value:=(Array.range (len * c.size)).map (λi=>z'[i % z'.size]!)
    have a9:∀u∈o.toList,u.oneCell'= true:=by
      intro u hu
      simp only[o,Array.toList_map,List.mem_map,Array.mem_toList_iff,Array.mem_range]at hu
      obtain⟨i,X,rfl⟩:=hu
      have f:len * c.size≠0:=om
      have y:z'= z.cells:=if_neg f
      rw[y]
      have hpos:0<z.cells.size:=WN
      have hlt:i % z.cells.size<z.cells.size:=Nat.mod_lt _ hpos
      simp_all
    have a3:AL g w (List.replicate (len * c.size) .undef) o.toList:=by
      have:∀(l:List Value),AL g w (List.replicate l.length .undef) l:=by
        intro l
        induction l with
        |nil=>rfl
        |cons v l E=>exact⟨v,l,rfl,trivial,E⟩
      have h:=this o.toList
      rwa [show o.toList.length=len * c.size by simp[o]]at h
    obtain⟨a7,cells', e1,e2,e3,e4,e5⟩:=sY (g:=g) (w:=w) (a:=a) b.toList _ o _ v hv (λp hp=>ho p.2 WG) a3 a9
    have a5:c.agg=false->c.size=1:=by
      intro e
      rw[e]at q
      exact Nat.eq_of_beq_eq_true Ym
    obtain⟨xs,Vs,f1,f2,f3,f4,f5⟩:=vG a5 len a7 cells'.toList _ v e5 e3 e4
    have ac:v = .slice xs .full:=(Option.some.inj f1).symm
    subst ac
    have aa:cells'.size=len * c.size:=by rw[e2];simp[o]
    have r:flat Vs=cells'.toList:=by rw[f5,List.take_of_length_le];simp[aa]
    obtain⟨n1,n2⟩:=FM hI cells' ti.elem cells'.size (le_refl _)
    have a4:(execOp a.eval ⟨some d, .buildSlice T len b,R,D,S,none⟩).run P w = .ok (.value (.slice (some ⟨w.heap.size,0,none⟩) len len)) (dN w (.cells cells' ti.elem)):=by
      have hs:¬(len * c.size>2 ^ 24):=by
        have:=Nat.le_of_ble_eq_true n
        omega
      have j:∀zz:Array Value,zz=z'-> Instr.fill (λi=>some (i * c.size,c.size)) ((Array.range (len * c.size)).map (λx=>zz[x % zz.size]!)) (b.map λx=>(x.1,a.eval x.2)).toList=some cells':= by
        intro zz y
        subst y
        rw[<-e1]
        congr 1
        simp
      simp only[execOp,Instr.buildSlice,Sem.run_bind,run_underlying t2,Result.andThen,cZ hE,if_neg hs]
      by_cases f:len * c.size=0
      · have h0:=j #[] (show #[]=z' from (if_pos f).symm)
        rw[if_pos f]
        simp only[Sem.run_bind,Sem.run_pure,Result.andThen,h0]
        rfl
      · have h0:=j z.cells (show z.cells=z' from (if_neg f).symm)
        rw[if_neg f]
        simp only[Sem.run_bind,Sem.run_pure,Result.andThen,hz,h0]
        rfl
    unfold Oper.wp
    rw[a4]
    refine hn _ _ _ n1 n2 ⟨some ⟨w.heap.size,0,none⟩,len,c.size,Vs,by rw[f2],by rw[f2];exact le_refl _, ?_,f2,AL.mono n1.le _ _ f3,(λh=>Wu),λp hp=> ?_⟩
    · have:=Nat.le_of_ble_eq_true a2
      unfold maxLen
      omega
    · cases hp
      refine⟨.inl rfl,fK f4 λk u m=> ?_⟩
      rw[r]at m
      have hlt:k<cells'.size:=by have:=(List.getElem?_eq_some_iff.1 m).1;simpa using this
      refine⟨.inr ⟨rfl,Yd⟩, ?_,e4 u (List.mem_of_getElem? m)⟩
      show (dN w (.cells cells' ti.elem)).cell? ⟨w.heap.size,0+k,none⟩=some u
      rw[Nat.zero_add,dW]
      simpa using m⟩ k
end rules
structure BU(g:Gh)(w:World)(k:Nat)(r': A9)(g': Gh)(w': World):Prop where
  bx:g'.bx=g.bx
  tk:(k<g.tk.length/\g'.tk=g.tk.set k r')\/(k=g.tk.length/\g'.tk=g.tk++[r'])
section
variable {g:Gh} {H:St} {w:World}
theorem BU.get{k:Nat}{r': A9}(h:BU g w k r' g' w'):g'.tk[k]? =some r':= by
  rcases h.tk with⟨h1,h2⟩|⟨h1,h2⟩
  · simp_all
  simp_all
def BU.other{k:Nat}{r': A9}(h:BU g w k r' g' w'){j:Nat}(hj:j≠k):g'.tk[j]? =g.tk[j]? :=by
  rcases h.tk with⟨h1,h2⟩|⟨h1,h2⟩
  · grind
  · grind
def J0(X:Inv g H w)(cells:Array Value)(T:TypeId){k n sz cap:Nat}(a8:cap * sz=cells.size)(hn:n<=cap){old:Option A9}(a5:g.tk[k]? =old)(hk:k<=g.tk.length)(a6:∀r,old=some r->r.n<n/\r.sz=sz)
    (hT:(k<H.T.length/\T'= H.T.set k (.len n))\/(k=H.T.length/\T'= H.T++[.len n])):
    ∃g', BU g w k ⟨some ⟨w.heap.size,0,none⟩,n,cap,sz,n⟩ g' (dN w (.cells cells T))/\Ar g w g' (dN w (.cells cells T))/\Inv g' ⟨H.B,T'⟩ (dN w (.cells cells T))/\
      (∀o,o<n * sz->g'.im w.heap.size o):=by
  let r': A9:=⟨some ⟨w.heap.size,0,none⟩,n,cap,sz,n⟩
  let z:Nat->Nat->Prop:=λb o=>g.im b o\/(b=w.heap.size/\o<n * sz)
  let q:List A9:=if k<g.tk.length then g.tk.set k r' else g.tk++[r']
  have a:BU g w k r' ⟨g.bx,q,z⟩ (dN w (.cells cells T)):=by refine⟨rfl, ?_⟩;grind
  have d:∀b o,r'.az b o->b=w.heap.size/\n * sz<=o/\o<cells.size:=by rintro b o ⟨p,hp,rfl,h1,h2⟩;grind
  have t:Le g w ⟨g.bx,q,z⟩ (dN w (.cells cells T)):=by refine⟨λb o h=>⟨.inl h,(cF (cO w _ (X.imlt b o h))).1⟩,λ_ _ h=>h,λj r hj=> ?_⟩;grind
  refine⟨⟨g.bx,q,z⟩,a, ?_, ?_,λo l => .inr ⟨rfl,l⟩⟩
  · refine⟨t,by rw[kF];omega,rfl,rfl,rfl,λb hb _ _=>cO w _ hb,λb f hb _ _=>cF (cO w _ hb),λb f h=> ?_,λb hb => .inl hb,λj r hj b f l=> ?_⟩
    · grind
    · by_cases e:j=k
      · subst e
        have:r=r':= Option.some.inj (hj.symm.trans a.get);subst this;exact .inl (by rw[(d b f l).1];exact le_refl _)
      · exact .inr ⟨r,(a.other e).symm.trans hj,l⟩
  · refine⟨X.lenB, ?_,λi b a3 h1 h2=>(X.ob i b a3 h1 h2).mono t (cO w _ (X.be (List.mem_of_getElem? h1))),X.nodup,λb hb f h=> ?_,λj m r hj x=> ?_,λj r hj b f l=> ?_,λj j' r r2 a0 hj u b f l y=> ?_,λb f h=> ?_,X.gl.le t⟩
    · show q.length=T'.length
      have v:=X.lenT;rcases hT with⟨h1,rfl⟩|⟨h1,rfl⟩
      · rw[show q=g.tk.set k r' from if_pos om];simp[v]
      · rw[show q=g.tk++[r'] from if_neg om];simp[v]
    · rcases h with h|⟨rfl,_⟩
      · exact X.noim b hb f h
      · have:=X.be hb;omega
    · by_cases e:j=k
      · subst e
        have:r=r':= Option.some.inj (hj.symm.trans a.get);subst this;rcases hT with⟨h1,rfl⟩|⟨h1,rfl⟩
        · simp only[List.getElem?_set_self h1,Option.some.injEq]at x;subst x;exact⟨rfl,rfl⟩
        · rw[h1]at x;simp at x;subst x;exact⟨rfl,rfl⟩
      · have c:g.tk[j]? =some r:=(a.other e).symm.trans hj
        have a7:=(List.getElem?_eq_some_iff.1 c).1;have v:=X.lenT;refine(X.tok j m r c ?_).mono t λb o l=>(cF (cO w _ (X.bc c l))).1
        rcases hT with⟨h1,rfl⟩|⟨h1,rfl⟩
        · simpa [Ne.symm e]using x
        · have a1:j<H.T.length:=om
          simpa [getElem?_append_left a1]using x
    · by_cases e:j=k
      · subst e
        have:r=r':= Option.some.inj (hj.symm.trans a.get);subst this;obtain⟨rfl,h1,h2⟩:=d b f l;refine⟨λh=> ?_,λhb=> ?_, ?_,j9 w cells T f⟩
        · rcases h with h|⟨_,h⟩
          · have:=X.imlt _ _ h;omega
          · omega
        · have:=X.be hb;omega
        · rw[dW];exact⟨cells[f],Array.getElem?_eq_getElem h2⟩
      · have c:g.tk[j]? =some r:=(a.other e).symm.trans hj
        obtain⟨h1,h2,h3,h4⟩:=X.tkz j r c b f l;have hb:=X.bc c l;have O:=cF (o:=f) (cO w (.cells cells T) hb);refine⟨λh=> ?_,h2,by rw[O.1];exact h3,O.2.trans h4⟩;rcases h with h|⟨rfl,_⟩
        · exact h1 h
        · omega
    · by_cases e:j=k
      · subst e
        have:r=r':= Option.some.inj (hj.symm.trans a.get);subst this;have c:g.tk[j']? =some r2:=(a.other (Ne.symm a0)).symm.trans u;have hb:=X.bc c y;have:=(d b f l).1;omega
      · have c:g.tk[j]? =some r:=(a.other e).symm.trans hj
        by_cases e': j'= k
        · subst e'
          have:r2=r':= Option.some.inj (u.symm.trans a.get);subst this;have hb:=X.bc c l;have:=(d b f y).1;omega
        · exact X.tkd j j' r r2 a0 c ((a.other e').symm.trans u) b f l y
    · rw[kF]
      rcases h with h|⟨rfl,_⟩
      · have:=X.imlt b f h;omega
      · omega
def OZ(X:Inv g H w){k:Nat}(hr:g.tk[k]? =some r){p:Addr}(hp:r.base=some p)(ai:p.spot=none){m:Nat}(hm:0<m)(ao:0<r.sz)(a7:r.lo=r.n)(a3:r.n+m<=r.cap){vs:List Value}(aj:vs.length=m * r.sz)
    (c:B4 w w' p.block (p.off+r.n * r.sz) vs) (af:k<H.T.length):
    ∃g', BU g w k ⟨r.base,r.n+m,r.cap,r.sz,r.n+m⟩ g' w'/\ Ar g w g' w'/\ Inv g' ⟨H.B,H.T.set k (.len (r.n+m))⟩ w'/\
      (∀b o,g.im b o->g'.im b o)/\(∀j,j<m * r.sz->g'.im p.block (p.off+r.n * r.sz+j)):=by
  obtain⟨x,f,ps⟩:=p;cases (show ps=none from ai);simp only at c
  let r': A9:=⟨r.base,r.n+m,r.cap,r.sz,r.n+m⟩
  let a4:Nat->Nat->Prop:=λb o=>g.im b o\/(b=x/\f+r.n * r.sz<=o/\o<f+r.n * r.sz+m * r.sz)
  have ag:=(List.getElem?_eq_some_iff.1 hr).1;have a:BU g w k r' ⟨g.bx,g.tk.set k r', a4⟩ w':= ⟨rfl, .inl ⟨ag,rfl⟩⟩;have a8:(r.n+m) * r.sz=r.n * r.sz+m * r.sz:=add_mul _ _ _;have am:r.n * r.sz+m * r.sz<=r.cap * r.sz:=by rw[<-a8];exact Nat.mul_le_mul_right _ a3
  have l:∀o,f+r.n * r.sz<=o->o<f+r.n * r.sz+m * r.sz->r.az x o:=λo h1 h2=>⟨⟨x,f,none⟩,hp,rfl,by rw[a7];exact h1,by show o<f+r.cap * r.sz;omega⟩
  have a0:∀b o,r'.az b o->r.az b o/\b=x/\f+r.n * r.sz+m * r.sz<=o:=by rintro b o ⟨q,hq,rfl,h1,h2⟩;have:q=⟨x,f,none⟩:=Option.some.inj (hq.symm.trans hp);subst this;have an:f+(r.n+m) * r.sz<=o:=h1;exact⟨⟨⟨x,f,none⟩,hp,rfl,by rw[a7];show f+r.n * r.sz<=o;omega,h2⟩,rfl,om⟩
  have d:∀b o,¬(b=x/\f+r.n * r.sz<=o/\o<f+r.n * r.sz+m * r.sz)->w'.cell? ⟨b,o,none⟩=w.cell? ⟨b,o,none⟩:=by
    intro b o h;by_cases e:b=x
    · subst e
      exact c.there o (by rw[aj];omega)
    · exact(cF (c.block b e)).1
  have u:∀b o,w'.frozen? ⟨b,o,none⟩=w.frozen? ⟨b,o,none⟩:=by
    intro b o;by_cases e:b=x
    · subst e;exact c.frozen o
    · exact(cF (c.block b e)).2
  have a6:∀b o,g.im b o->w'.cell? ⟨b,o,none⟩=w.cell? ⟨b,o,none⟩:=λb o h=>d b o λ⟨e,h1,h2⟩=>by subst e;exact(X.tkz k r hr b o (l o h1 h2)).1 h
  have y:Le g w ⟨g.bx,g.tk.set k r', a4⟩ w':= by
    refine⟨λb o h=>⟨.inl h,a6 b o h⟩,λ_ _ h=>h,λj r0 hj=> ?_⟩;by_cases e:j=k
    · subst e
      rw[hr]at hj;cases hj;exact⟨r', a.get, .inr ⟨by show r.n<r.n+m;omega,rfl⟩⟩
    · exact⟨r0,(a.other e).trans hj, .inl rfl⟩
  refine⟨⟨g.bx,g.tk.set k r', a4⟩,a, ?_, ?_,λ_ _ h => .inl h,λj hj => .inr ⟨rfl,by show f+r.n * r.sz<=f+r.n * r.sz+j;omega,by show f+r.n * r.sz+j<f+r.n * r.sz+m * r.sz;omega⟩⟩
  · refine⟨y,by rw[c.size];exact le_refl _,c.os,c.tape,c.output,λb hb hn hz=> ?_,λb o hb hn hz=> ?_,λb o h=> ?_,λb hb => .inl hb,λj r0 hj b o v=> ?_⟩
    · by_cases e:b=x
      · subst e
        by_cases hz0:m * r.sz=0
        · exfalso
          rcases Nat.mul_eq_zero.1 hz0 with h|h
          · omega
          · omega
        · exact absurd (l (f+r.n * r.sz) (le_refl _) om) (hz k r hr _)
      · exact c.block b e
    · have ah:=hz k r hr
      refine⟨d b o λ⟨e,h1,h2⟩=>ah (by subst e;exact l o h1 h2),u b o⟩
    · rcases h with h|⟨rfl,h1,h2⟩
      · exact .inl h
      · exact .inr (.inr ⟨k,r,hr,l o h1 h2⟩)
    · by_cases e:j=k
      · subst e
        have:r0=r':= Option.some.inj (hj.symm.trans a.get);subst this;exact .inr ⟨r,hr,(a0 b o v).1⟩
      · exact .inr ⟨r0,(a.other e).symm.trans hj,v⟩
  · have ae:∀b,b∈g.bx->w'.heap[b]? =w.heap[b]? :=by
      intro b hb;by_cases e:b=x
      · subst e
        by_cases hz0:m * r.sz=0
        · exfalso
          rcases Nat.mul_eq_zero.1 hz0 with h|h
          · omega
          · omega
        · exact absurd hb (X.tkz k r hr b _ (l (f+r.n * r.sz) (le_refl _) om)).2.1
      · exact c.block b e
    refine⟨X.lenB,by simpa using X.lenT,λi b ak h1 h2=>(X.ob i b ak h1 h2).mono y (ae b (List.mem_of_getElem? h1)),X.nodup,λb hb o h=> ?_,λj n r0 hj hn=> ?_,λj r0 hj b o v=> ?_,λj j' r0 r2 z hj a1 b o v a2=> ?_,λb o h=> ?_,X.gl.le y⟩
    · rcases h with h|⟨rfl,h1,h2⟩
      · exact X.noim b hb o h
      · exact(X.tkz k r hr b o (l o h1 h2)).2.1 hb
    · by_cases e:j=k
      · subst e
        have:r0=r':= Option.some.inj (hj.symm.trans a.get);subst this;simp only[List.getElem?_set_self af,Option.some.injEq]at hn;subst hn;exact⟨rfl,rfl⟩
      · have t:g.tk[j]? =some r0:=(a.other e).symm.trans hj
        refine(X.tok j n r0 t (by simpa [Ne.symm e]using hn)).mono y λb o v=>d b o λ⟨e', h1,h2⟩=> ?_
        subst e';exact X.tkd j k r0 r e t hr b o v (l o h1 h2)
    · by_cases e:j=k
      · subst e
        have:r0=r':= Option.some.inj (hj.symm.trans a.get);subst this;obtain⟨hz,rfl,h3⟩:=a0 b o v;obtain⟨h4,h5,h6,h7⟩:=X.tkz j r hr b o hz;refine⟨λh=> ?_,h5, ?_,(u b o).trans h7⟩
        · rcases h with h|⟨_,h1,h2⟩
          · exact h4 h
          · omega
        · rw[d b o (λ⟨_,h1,h2⟩=>om)];exact h6
      · have t:g.tk[j]? =some r0:=(a.other e).symm.trans hj
        obtain⟨h4,h5,h6,h7⟩:=X.tkz j r0 t b o v;have a9:¬(b=x/\f+r.n * r.sz<=o/\o<f+r.n * r.sz+m * r.sz):=λ⟨e', h1,h2⟩=>by subst e';exact X.tkd j k r0 r e t hr b o v (l o h1 h2)
        refine⟨λh=> ?_,h5,by rw[d b o a9];exact h6,(u b o).trans h7⟩;rcases h with h|h
        · exact h4 h
        · exact a9 h
    · by_cases e:j=k
      · subst e
        have:r0=r':= Option.some.inj (hj.symm.trans a.get);subst this;exact X.tkd j j' r r2 z hr ((a.other (Ne.symm z)).symm.trans a1) b o (a0 b o v).1 a2
      · have t:g.tk[j]? =some r0:=(a.other e).symm.trans hj
        by_cases e': j'= k
        · subst e'
          have:r2=r':= Option.some.inj (a1.symm.trans a.get);subst this;exact X.tkd j j' r0 r z t hr b o v (a0 b o a2).1
        · exact X.tkd j j' r0 r2 z t ((a.other e').symm.trans a1) b o v a2
    · rw[c.size]
      rcases h with h|⟨rfl,h1,h2⟩
      · exact X.imlt b o h
      · exact X.bc hr (l o h1 h2)
end
def eQ(agg:Bool)(n:Nat):List AV->Bool
  |[]=>true
  |y::ys=>fits agg n y&&eQ agg n ys
def o6{agg:Bool}{n:Nat}{g:Gh}{w:World}:∀ {ys:List AV} {Vs:List Value},eQ agg n ys=true->AL g w ys Vs->∀V∈Vs,V.cells.size=n/\∀u∈V.cells.toList,u.oneCell'= true
  |[],_,_,h,V,a=>by rw[show _=[] from h]at a;cases a
  |y::ys,_,hf,⟨v,C,e,h1,h2⟩,V,a=>by
    simp only[eQ,Bool.and_eq_true]at hf;subst e;rcases List.mem_cons.1 a with rfl|a
    · obtain⟨b,_,_,c⟩:=nM hf.1 h1;simp_all
    · exact o6 hf.2 h2 V a
theorem iM{α:Type}{agg:Bool}{n:Nat}{f:α->AV}(h:∀x,fits agg n (f x)=true):∀l:List α,eQ agg n (l.map f)=true
  |[]=>rfl
  |x::l=>by simp[eQ,h x,iM h l]
def j5:Nat->Tok->List Tok->(List Tok->Option (List Tok))->Option (List Tok)
  |0,v,_::T,k=>k (v::T)
  |n+1,v,x::T,k=>j5 n v T λr=>k (x::r)
  |_,_,[],_=>none
def d6:∀(n:Nat) (v:Tok) (T:List Tok) (k:List Tok->Option (List Tok)) (r:List Tok),j5 n v T k=some r->n<T.length/\k (T.set n v)=some r
  |0,v,x::T,k,r,h=>⟨Wa,h⟩
  |n+1,v,x::T,k,r,h=>by have:=d6 n v T _ r h;simp_all
  |0,v,[],k,r,h=>by cases h
  |n+1,v,[],k,r,h=>Wu
section rules
variable {P:Program} [Lay P] {A:Array Oper} {G:Bool} {K:AX->AE->St->Prop} {C:List Oper} {I:List Ak} {s:AE} {H:St}
variable {d:Tmp} {R:TypeId} {D:String} {S:Array Edge}
structure CX(g:Gh)(w:World)(sz:Nat)(ys:List AV)(u:Value)(Ys:List Value):Prop where
  a1:AL g w ys Ys
  size:∀V∈Ys,V.cells.size=sz
  one:∀v∈flat Ys,v.oneCell'= true
  form:(∃(a:Addr) (c:Nat),u = .slice (some a) Ys.length c/\∀(j:Nat) (v:Value),(flat Ys)[j]? =some v->w.cell? (a.add j)=some v/\g.im a.block (a.off+j))\/(u = .slice none 0 0/\Ys=[])
def IX{b:TI}{ys:List AV}{t:Tk}{g:Gh}{w:World}(h:Ab g w (.slice ys t) u)(hf:eQ b.agg b.size ys=true):∃Ys,CX g w b.size ys u Ys:=by
  obtain⟨a,cap,sz,Vs,rfl,h1,h2,h3,h4,d,f⟩:=h;have hs:=o6 hf h4;refine⟨Vs,h4,λV c=>(hs V c).1,λv hv=> ?_, ?_⟩
  · obtain⟨V,c,hv⟩:=List.mem_flatMap.1 hv;grind
  · cases a with
    |none=>obtain⟨rfl,rfl⟩:=d rfl;exact .inr ⟨rfl,rfl⟩
    |some p=>obtain⟨m,n,ps⟩:=p;obtain⟨e,i⟩:=f _ rfl;refine .inl ⟨_,cap,rfl,λj v hj=> ?_⟩;cases (show ps=none from e.resolve_right (λe=>by subst e;simp[flat]at hj));obtain⟨k,l,_⟩:=i.flat hj;rw[eO];simp_all
def O0{g g': Gh}{w:World}{sz n cap:Nat}{Us Ys:List Value}{cells:Array Value}(d:Le g w g' (dN w (.cells cells T)))(m:AL g w xs Us)(r:AL g w ys Ys)(f:∀V∈Us,V.cells.size=sz)(i:∀V∈Ys,V.cells.size=sz)
    (y:∀v∈flat Us++flat Ys,v.oneCell'= true) (l:∀(j:Nat) (v:Value),(flat Us++flat Ys)[j]? =some v->cells[j]? =some v) (hn:Us.length+Ys.length=n) (c:n<=cap) (e:cap<=maxLen)
    {k:Nat} (hk:g'.tk[k]? =some ⟨some ⟨w.heap.size,0,none⟩,n,cap,sz,n⟩) (t:∀o,o<n * sz->g'.im w.heap.size o):
    Ab g' (dN w (.cells cells T)) (.slice (xs++ys) (.own k sz)) (.slice (some ⟨w.heap.size,0,none⟩) n cap):=by
  have b:∀V∈Us++Ys,V.cells.size=sz:=λV q=>(mem_append.1 q).elim (f V) (i V)
  have a:(Us++Ys).length=n:=by rw[length_append,hn]
  refine⟨some ⟨w.heap.size,0,none⟩,cap,sz,Us++Ys,by rw[a],by rw[a];exact c,e,⟨.inl rfl,_,hk,rfl,by rw[a];exact le_refl _,λ_=>⟨rfl,rfl, .inr λp hp=>by cases hp;rfl⟩⟩,(AL.mono d _ _ m).append (AL.mono d _ _ r),(λh=>Wu),λp hp=> ?_⟩;cases hp;refine⟨.inl rfl,fK b λj u hj=> ?_⟩;rw[gY]at hj;have x:j<n * sz:=by have:=(List.getElem?_eq_some_iff.1 hj).1;rw[length_append,cY f,cY i, <-add_mul,hn]at this;exact this
  rw[Nat.zero_add,dW];grind
def vH{R:TypeId}{k z n:Nat}{l te:TI}(hT:ty? P T=some l)(hk:l.kind = .slice)(hE:ty? P l.elem=some te)(o:te.size=z)(hz0:0<z)
    {g:Gh} {w:World} (hI:Inv g H w) {ux uy:Value} (h1:Ab g w (.slice xs (.own k z)) ux) {Ys:List Value} (a:CX g w te.size ys uy Ys) (hTk:H.T[k]? =some (.len n)) (hn:xs.length=n)
    (hb:(n+ys.length) * te.bytes<=140737488355328) (hb': n+ys.length<=4611686018427387904):
    ∃v w' g', (Builtin.append_ #[T,T] R #[ux,uy]).run P w = .ok v w'/\ Ar g w g' w'/\ Inv g' ⟨H.B,H.T.set k (.len (n+ys.length))⟩ w'/\ Ab g' w' (.slice (xs++ys) (.own k z)) v:=by
  have ad:Ys.length=ys.length:=a.a1.length;have kl:k<H.T.length:=(List.getElem?_eq_some_iff.1 hTk).1;obtain⟨a0,cap,sz,Us,rfl,c1,c2,⟨c3,r,hr,a1,c4,c5⟩,hl,c6,c7⟩:=h1;have a2:Us.length=n:=by rw[<-hn];exact hl.length
  obtain⟨x,ba⟩:=hI.cu hr hTk;obtain⟨c8,c9,bj⟩:=c5 (by rw[a2,x]);obtain⟨cg,dd,z0,t1,t2,t3,t4,_⟩:=(eK hT).ex;have hd:∃e,dd = .slice e:=Wi
  obtain⟨el,rfl⟩:=hd;have br:el=l.elem:=t4;subst br;obtain⟨ie,de,ze,u1,u2,u3,u4,u5,u6,u7,u8,u9,ca,ct,cu,cv⟩:=(eK hE).ex;have ac:∀V∈Us,V.cells.size=z:=by
    intro V hV;rcases c3 with rfl|c3
    · cases a0 with
      |none=>rw[(c6 rfl).1]at hV;cases hV
      |some p=>obtain⟨i,X⟩:=List.getElem?_of_mem hV;exact((c7 p rfl).2 i V X).1
    · have:=List.eq_nil_of_length_eq_zero c3
      subst this;cases hV
  have ae:∀V∈Ys,V.cells.size=z:=λV hV=>by rw[<-o];exact a.size V hV
  by_cases hm:Ys.length=0
  · -- nothing is appended
    have bp:=List.eq_nil_of_length_eq_zero hm;subst bp;have bb:ys=[]:=List.eq_nil_of_length_eq_zero (by rw[<-ad];rfl);subst bb;refine⟨.slice a0 Us.length cap,w,g, ?_,fD g w, ?_, ?_⟩
    · rcases a.form with⟨b,c,rfl,_⟩|⟨rfl,_⟩
      · have al:(Builtin.firstCells ie.size 0 (.slice (some b) 0 c)).run P w = .ok #[] w:=by simp[Builtin.firstCells,loadCells,loadCellsFrom]
        cases a0<;>simp[Builtin.append_,run_underlying t2,sizeOf,typeInfo,u1,Builtin.lenOf,c1,al,storeCells]
      · cases a0<;>simp[Builtin.append_,run_underlying t2,sizeOf,typeInfo,u1,Builtin.lenOf,c1,Builtin.firstCells,storeCells]
    · have bo:H.T.set k (.len (n+([]:List AV).length))=H.T:=by
        apply List.ext_getElem?;intro i;by_cases e:i=k
        · subst e;rw[List.getElem?_set_self kl,hTk];rfl
        · rw[List.getElem?_set_ne (Ne.symm e)]
      rw[bo];exact hI
    · rw[List.append_nil]
      exact⟨a0,cap,sz,Us,rfl,c1,c2,⟨c3,r,hr,a1,c4,c5⟩,hl,c6,c7⟩
  · have f:0<Ys.length:=om
    rcases a.form with⟨sb,sc,rfl,d⟩|⟨_,e⟩
    case inr=>rw[e]at f;simp at f
    have a3:(flat Ys).length=Ys.length * ie.size:=by rw[u6,o];exact cY ae
    have a9:(flat Us).length=Us.length * ie.size:=by rw[u6,o];exact cY ac
    have a4:Us.length+Ys.length<=maxLen:=by unfold maxLen;omega
    have a8:∀old,old<Us.length+Ys.length->Builtin.nextslicecap (Us.length+Ys.length) old * ie.bytes<=281474976710656:=λold h=>growslice_fits h (by rw[a2,ad,u7];exact hb)
    have bw:ze.cells.size=z:=ca.trans o;have a7:∀(old:Nat) (b4:∀v∈flat Us,v.oneCell'= true),old<Us.length+Ys.length->∃g',
        Ar g w g' (w.drew.alloc (.cells ((flat Us).toArray++(flat Ys).toArray++Builtin.zeroCells ze.cells (grownCap w (Us.length+Ys.length) old l.elem-(Us.length+Ys.length))) l.elem))/\
        Inv g' ⟨H.B,H.T.set k (.len (n+ys.length))⟩ (w.drew.alloc (.cells ((flat Us).toArray++(flat Ys).toArray++Builtin.zeroCells ze.cells (grownCap w (Us.length+Ys.length) old l.elem-(Us.length+Ys.length))) l.elem))/\
        Ab g' (w.drew.alloc (.cells ((flat Us).toArray++(flat Ys).toArray++Builtin.zeroCells ze.cells (grownCap w (Us.length+Ys.length) old l.elem-(Us.length+Ys.length))) l.elem)) (.slice (xs++ys) (.own k z))
          (.slice (some ⟨w.heap.size,0,none⟩) (Us.length+Ys.length) (grownCap w (Us.length+Ys.length) old l.elem)):=by
      intro old ao b4;have b0:=grownCap_ge w (Us.length+Ys.length) old l.elem;have b2:=grownCap_le_maxLen w (Us.length+Ys.length) old l.elem a4;have aq:grownCap w (Us.length+Ys.length) old l.elem * z=((flat Us).toArray++(flat Ys).toArray++Builtin.zeroCells ze.cells (grownCap w (Us.length+Ys.length) old l.elem-(Us.length+Ys.length))).size:=by
        simp only[Array.size_append,List.size_toArray,size_zeroCells,bw,cY ac,cY ae, <-add_mul]
        congr 1
        omega
      obtain⟨g', n1,n2,n3,n4⟩:=J0 (hI.drew (w.drawn+1)) ((flat Us).toArray++(flat Ys).toArray++Builtin.zeroCells ze.cells (grownCap w (Us.length+Ys.length) old l.elem-(Us.length+Ys.length))) l.elem (k:=k) (n:=Us.length+Ys.length) (sz:=z)
        aq b0 (old:=some r) hr (Nat.le_of_lt (List.getElem?_eq_some_iff.1 hr).1) (λr' h=>by cases h;exact⟨om,a1⟩) (T':= H.T.set k (.len (n+ys.length))) (.inl ⟨kl,by rw[a2,ad]⟩)
      refine⟨g', (Ar.drew g w _).trans n2,n3, ?_⟩;refine O0 (g:=g) (w:=w.drew) (n:=Us.length+Ys.length) n2.le (AL.mono (Ar.drew g w (w.drawn+1)).le _ _ hl) (AL.mono (Ar.drew g w (w.drawn+1)).le _ _ a.a1) ac ae (λv hv=>(mem_append.1 hv).elim (ao v) (a.one v)) (λj v hj=> ?_) rfl b0 b2 n1.get n4;have hlt:=(List.getElem?_eq_some_iff.1 hj).1;rw[<-getElem?_toList,Array.toList_append,Array.toList_append,getElem?_append_left Yd];simpa using hj
    cases a0 with
    |none=>
      obtain⟨rfl,rfl⟩:=c6 rfl;have bv:xs=[]:=List.eq_nil_of_length_eq_zero (by rw[hn, <-a2];rfl);subst bv;obtain⟨g', n1,n2,n3⟩:=a7 0 Yk XS;have y:=run_append_nil (P:=P) w T R l.elem ie ze t2 u1 u8 sb Ys.length sc (flat Ys) a3 (λj v hj=>(d j v hj).1) f (by have:=a4;unfold maxLen at this;simp at this;omega) (by have:=a8 0 XS;rw[show ([]:List Value).length+Ys.length=Ys.length by simp,nextslicecap_zero f]at this;exact this);refine⟨_,_,g', y, ?_, ?_, ?_⟩
      · simpa [flat]using n1
      · simpa [flat]using n2
      · simpa [flat]using n3
    |some p=>
      obtain⟨e,b3⟩:=c7 p rfl;by_cases ap:p.spot=none
      case neg=>
        have hU:=e.resolve_left ap;subst hU;have bq:cap=0:=bj.resolve_right λh=>ap (h p rfl)
        subst bq;obtain⟨g', n1,n2,n3⟩:=a7 0 Yk XS;have y:=run_append_grow (P:=P) w T R l.elem ie ze t2 u1 u8 p ([]:List Value).length 0 (flat []) a9 (λj v hj=>by simp[flat]at hj) sb Ys.length sc (flat Ys) a3 (λj v hj=>(d j v hj).1) XS (by have:=a4;unfold maxLen at this;omega) (a8 0 XS);exact⟨_,_,g', y,n1,n2,n3⟩
      obtain⟨pb,t,ps⟩:=p;cases (show ps=none from ap);have cf:sz=z\/Us=[]:=c3.imp id List.eq_nil_of_length_eq_zero;have ak:∀(j:Nat) (v:Value),(flat Us)[j]? =some v->w.cell? ((⟨pb,t,none⟩:Addr).add j)=some v/\v.oneCell'= true/\g.im pb (t+j):=λj v hj=>by obtain⟨m1,m2,m3⟩:=b3.flat hj;rw[eO];exact⟨m2,m3,m1⟩
      have b5:∀v∈flat Us,v.oneCell'= true:=λv hv=>by obtain⟨j,hj⟩:=List.getElem?_of_mem hv;exact(ak j v hj).2.1
      by_cases m:Us.length+Ys.length<=cap
      · -- there is room
        have al:(Builtin.firstCells ie.size Ys.length (.slice (some sb) Ys.length sc)).run P w = .ok (flat Ys).toArray w:=run_firstCells_some (P:=P) w ie.size Ys.length sb Ys.length sc (flat Ys) a3 (λj v hj=>(d j v hj).1);have bc:∀j,j<(flat Ys).length->r.az pb (t+r.n * r.sz+j):=λj hj=>⟨⟨pb,t,none⟩,c8,rfl,by rw[ba, <-x];show t+r.n * r.sz<=t+r.n * r.sz+j;omega,by show t+r.n * r.sz+j<t+r.cap * r.sz;rw[a3,u6,o]at hj;have h3:(Us.length+Ys.length) * z<=cap * z:=Nat.mul_le_mul_right _ m;rw[add_mul]at h3;rw[x,a1,c9, <-a2];omega⟩
        obtain⟨w', bu,hs⟩:=tI (P:=P) pb (flat Ys) 0 (t+r.n * r.sz) w (λj hj=>(hI.tkz k r hr pb _ (by simpa using bc j hj)).2.2.1) (λj hj=>(hI.tkz k r hr pb _ (by simpa using bc j hj)).2.2.2) a.one;obtain⟨g', n1,n2,n3,n4,n5⟩:=OZ hI hr c8 rfl f om (by rw[ba,x]) (by rw[x,c9, <-a2];exact m) (by rw[a3,u6,o,a1]) hs kl;refine⟨.slice (some ⟨pb,t,none⟩) (Us.length+Ys.length) cap,w', g', ?_,n2,by rw[<-ad, <-x];exact n3, ?_⟩
        · have ay:(⟨pb,t,none⟩:Addr).add (Us.length * ie.size)=⟨pb,t+r.n * r.sz,none⟩:=by rw[eO,u6,o,a1,x,a2]
          simp[Builtin.append_,run_underlying t2,sizeOf,typeInfo,u1,Builtin.lenOf,m,al,ay,bu]
        · have az:∀V∈Us++Ys,V.cells.size=z:=λV hV=>(mem_append.1 hV).elim (ac V) (ae V)
          have aa:(Us++Ys).length=Us.length+Ys.length:=length_append;refine⟨some ⟨pb,t,none⟩,cap,z,Us++Ys,by rw[aa],by rw[aa];exact m,c2,⟨.inl rfl,_,n1.get,a1, ?_,λ_=>⟨c8,c9, .inr λp hp=>by cases hp;rfl⟩⟩,(AL.mono n2.le _ _ hl).append (AL.mono n2.le _ _ a.a1),(λh=>Wu),λq hq=> ?_⟩
          · rw[aa]
            show Us.length+Ys.length<=r.n+Ys.length;omega
          · cases hq
            refine⟨.inl rfl,fK az λj u hj=> ?_⟩;rw[gY]at hj;show g'.im pb (t+j)/\w'.cell? ⟨pb,t+j,none⟩=some u/\u.oneCell'= true;by_cases bs:j<(flat Us).length
            · rw[getElem?_append_left bs]at hj
              obtain⟨m1,m2,m3⟩:=ak j u hj;rw[eO]at m1;exact⟨n4 _ _ m3,(n2.le.im _ _ m3).2.trans m1,m2⟩
            · rw[List.getElem?_append_right om]at hj
              have am:(flat Us).length=r.n * r.sz:=by rw[a9,u6,o,a1,x,a2]
              have an:=hs.here (j-(flat Us).length) u hj;have bt:=(List.getElem?_eq_some_iff.1 hj).1;have aj:t+r.n * r.sz+0+(j-(flat Us).length)=t+j:=by rw[<-am];omega
              have b1:=n5 (j-(flat Us).length) (by rw[a1, <-o, <-u6, <-a3];exact bt);simp only[add_zero]at aj an;rw[aj]at an b1;exact⟨b1,an,a.one u (List.mem_of_getElem? hj)⟩
      · -- it must grow
        obtain⟨g', n1,n2,n3⟩:=a7 cap b5 om;have y:=run_append_grow (P:=P) w T R l.elem ie ze t2 u1 u8 ⟨pb,t,none⟩ Us.length cap (flat Us) a9 (λj v hj=>(ak j v hj).1) sb Ys.length sc (flat Ys) a3 (λj v hj=>(d j v hj).1) om (by have:=a4;unfold maxLen at this;omega) (a8 cap om);exact⟨_,_,g', y,n1,n2,n3⟩
omit [Lay P] in
theorem kC{a:Act}{w w': World}{v:Value}(h:(Builtin.append_ #[T,T] R #[a.eval x,a.eval y]).run P w = .ok v w'):
    (execOp a.eval ⟨some d, .call ⟨.builtin .append, #[x,y], #[T,T]⟩,R,D,S,none⟩).run P w = .ok (.value v) w':= by
  have b:Array.map a.eval #[x,y] = #[a.eval x,a.eval y]:=Wa
  simp only[execOp,resolve,Sem.run_bind,Sem.run_pure,Result.andThen,invoke,builtin,b,h]
theorem bU{t:Tk}{k z n:Nat}{ti te:TI}(hn:xs.length=n)(m:AD P A G K C (.tk::I) ((d, .slice (xs++ys) (.own k z))::s) ⟨H.B,T'⟩)(hT:ty? P T=some ti:=by exact rfl)(hE:ty? P ti.elem=some te:=by exact rfl)(Y:ev? s x=some (.slice xs (.own k z)):=by exact rfl)(hy:ev? s y=some (.slice ys t):=by exact rfl)(hk:ti.kind = .slice:=by exact rfl)(hz:Nat.beq te.size z=true:=by exact rfl)(hz0:Nat.blt 0 z=true:=by exact rfl)(hTk:H.T[k]? =some (.len n):=by exact rfl)(hf:eQ te.agg te.size ys=true:=by exact rfl)(hb:(n+ys.length) * te.bytes<=140737488355328:=by dsimp only[List.length_cons,List.length_nil];omega)(hb': n+ys.length<=4611686018427387904:=by dsimp only[List.length_cons,List.length_nil];omega)(hT': j5 k (.len (n+ys.length)) H.T some=some T':= by exact rfl):AD P A G K (⟨some d, .call ⟨.builtin .append, #[x,y], #[T,T]⟩,R,D,S,none⟩::C) I s H:=
  bT (t := .tk) (σ':= ⟨H.B,T'⟩) rfl ⟨rfl,λB=>by
    intro g w a next Q l f e
    have h1:=op1 Y Wj f
    have h2:=op1 hy Wj f
    obtain⟨Ys,b⟩:=IX h2 hf
    obtain⟨o,c⟩:=d6 _ _ _ _ _ hT'
    obtain⟨v,w', g', e1,h,i,j⟩:=vH (H:=⟨B,H.T⟩) (R:=R) hT hk hE (Nat.eq_of_beq_eq_true hz) (Nat.le_of_ble_eq_true hz0) l h1 b hTk hn hb hb'
    unfold Oper.wp
    rw[kC e1]
    refine e v w' g' h ?_ j
    rw[show (⟨H.B,T'⟩:St).T=T' from rfl, <-Option.some.inj c]
    exact i⟩ m
def Tk.fresh:Tk->Bool
  | .full | .nil=>true
  |_=>false
omit [Lay P] in
def rO{t:Tk}{agg:Bool}{z:Nat}(ht:t.fresh=true)(hf:eQ agg z xs=true){g:Gh}{w:World}(c:Inv g H w)(h:Ab g w (.slice xs t) u):
    ∃g', Ar g w g' w/\Inv g' ⟨H.B,H.T++[.len xs.length]⟩ w/\Ab g' w (.slice xs (.own H.T.length z)) u:=by
  obtain⟨x,cap,sz,Us,rfl,c1,c2,c3,hl,y,v⟩:=h;have m:cap=Us.length:=by
    cases t with
    |full=>exact c3.symm
    |nil=>obtain⟨rfl,rfl⟩:=c3;have:=(y rfl).1;subst this;rfl
    |no=>cases ht
    |nn=>cases ht
    |own k z=>cases ht
  subst m;let r:A9:=⟨x,xs.length,Us.length,z,xs.length⟩;have a4:Us.length=xs.length:=hl.length;have f:∀b o,¬r.az b o:=by rintro b o ⟨p,_,_,h1,h2⟩;grind
  have a:∀(j:Nat) (r': A9),(g.tk++[r])[j]? =some r'-> g.tk[j]? =some r'\/ (j=g.tk.length/\r'= r):=WN
  have d:Le g w ⟨g.bx,g.tk++[r],g.im⟩ w:=⟨λ_ _ h=>⟨h,rfl⟩,λ_ _ h=>h,λj r' hj=>⟨r', by rw[getElem?_append_left (List.getElem?_eq_some_iff.1 hj).1];exact hj, .inl rfl⟩⟩;refine⟨⟨g.bx,g.tk++[r],g.im⟩,⟨d,le_refl _,rfl,rfl,rfl,λ_ _ _ _=>rfl,λ_ _ _ _ _=>⟨rfl,rfl⟩,λ_ _ h => .inl h,λ_ h => .inl h,λj r' hj b o l=> ?_⟩, ?_, ?_⟩
  · grind
  · refine⟨c.lenB,by simp[c.lenT],λi b ob h1 h2=>(c.ob i b ob h1 h2).mono d rfl,c.nodup,c.noim,λj n r' hj hn=> ?_,λj r' hj b o l=> ?_,λj j' r1 r2 a3 hj a1 b o l q=> ?_,c.imlt,c.gl⟩
    · rcases a j r' hj with h|⟨rfl,rfl⟩
      · have a2:=(List.getElem?_eq_some_iff.1 h).1;refine(c.tok j n r' h ?_).mono d λ_ _ _=>rfl
        have:j<H.T.length:=by rw[<-c.lenT];exact a2
        simpa [getElem?_append_left this]using hn
      · rw[c.lenT]at hn;simp at hn;subst hn;exact⟨rfl,rfl⟩
    · rcases a j r' hj with h|⟨_,rfl⟩
      · exact c.tkz j r' h b o l
      · exact absurd l (f b o)
    · rcases a j r1 hj with h|⟨_,rfl⟩
      · rcases a j' r2 a1 with h'| ⟨_,rfl⟩
        · exact c.tkd j j' r1 r2 a3 h h' b o l q
        · exact absurd q (f b o)
      · exact absurd l (f b o)
  · refine⟨x,Us.length,sz,Us,rfl,c1,c2,⟨?_,r, ?_,rfl, ?_,λ_=>⟨rfl,rfl, ?_⟩⟩,AL.mono d _ _ hl,y,λp hp=>⟨(v p hp).1,(v p hp).2.mono d⟩⟩
    · rcases Nat.eq_zero_or_pos Us.length with e|e
      · exact .inr e
      · left;obtain⟨V,hV⟩:∃V,Us[0]? =some V:=⟨Us[0],List.getElem?_eq_getElem e⟩;have h1:=(o6 hf hl V (List.mem_of_getElem? hV)).1;cases x with
        |none=>have:=(y rfl).1;subst this;simp at e
        |some p=>exact(((v p rfl).2 0 V hV).1).symm.trans h1
    · rw[<-c.lenT];simp
    · rw[a4];exact le_refl _
    · rcases Nat.eq_zero_or_pos Us.length with e|e
      · exact .inl e
      · exact .inr λp hp=>(v p hp).1.resolve_right (λh=>by rw[h]at e;simp at e)
def sZ{t t': Tk}{k n:Nat}{l b:TI}(hT:ty? P T=some l)(hk:l.kind = .slice)(hE:ty? P l.elem=some b)(hz0:Nat.blt 0 b.size=true)
    (Y:ev? s x=some (.slice xs t')) (ht:t'.fresh=true) (f:eQ b.agg b.size xs=true) (hy:ev? s y=some (.slice ys t)) (h:dM H.T=some k) (hn:xs.length=n) (hf:eQ b.agg b.size ys=true)
    (hb:(n+ys.length) * b.bytes<=140737488355328) (hb': n+ys.length<=4611686018427387904) (hT': kU H.T (.len (n+ys.length)) some=some T')
    (kk:AD P A G K C (.tk::I) ((d, .slice (xs++ys) (.own k b.size))::s) ⟨H.B,T'⟩):AD P A G K (⟨some d, .call ⟨.builtin .append, #[x,y], #[T,T]⟩,R,D,S,none⟩::C) I s H:=
  bT (t := .tk) (σ':= ⟨H.B,T'⟩) rfl ⟨rfl,λB=>by
    intro g w a next Q hI m j
    have h1:=op1 Y Wj m
    have h2:=op1 hy Wj m
    obtain⟨g1,e1,o,p⟩:=rO ht f hI h1
    obtain⟨Ys,c⟩:=IX (Ab.mono e1.le _ _ h2) hf
    have i:H.T.length=k:=dG h
    have e:H.T++[Tok.len (n+ys.length)]=T':= Option.some.inj (eX _ _ _ _ hT')
    obtain⟨v,w', g', q,r,u,z⟩:=vH (H:=⟨B,H.T++[.len xs.length]⟩) (R:=R) (n:=n) hT hk hE rfl (Nat.le_of_ble_eq_true hz0) o p c (by simp[hn]) hn hb hb'
    unfold Oper.wp
    rw[kC q]
    refine j v w' g' (e1.trans r) ?_ (by rw[<-i];exact z)
    have:(H.T++[Tok.len xs.length]).set H.T.length (.len (n+ys.length))=T':= by rw[<-e];simp
    rw[<-this]
    exact u⟩ kk
omit [Lay P] in
theorem eJ{N:Nat}{D:List Deferred}{c:Code}(b:Nat)(agg:Bool)(z:Nat){t:Tk}{k n:Nat}(Y:lk? s b=some (.slice xs t))(h:AB P N D c K ((b, .slice xs (.own k z))::s) ⟨H.B,T'⟩)(ht:t.fresh=true:=by exact rfl)(hf:eQ agg z xs=true:=by exact rfl)(hk:dM H.T=some k:=by exact rfl)(hn:xs.length=n:=by exact rfl)(hT': kU H.T (.len n) some=some T':= by exact rfl):AB P N D c K s H:=λg w a X hs ha m=>by
  have h1:=hs b;rw[g9 Y]at h1;obtain⟨l,e1,i,j⟩:=rO ht hf X h1;have f:H.T.length=k:=dG hk;have d:H.T++[Tok.len n]=T':= Option.some.inj (eX _ _ _ _ hT');rw[hn,d]at i;rw[f]at j;refine wp_mono (h l w a i (λu=> ?_) ha m) λ_ _ _ hp=>hp.trans e1
  unfold lk;cases e:Nat.beq b u with
  |true=>have:=Nat.eq_of_beq_eq_true e;subst this;exact j
  |false=>exact Ab.mono e1.le _ _ (hs u)
end rules
end Go.Av
