/- Joined texts. -/
import Derived.Laws.Append
import Derived.Test.YtimbiifcnhgcoaaGreatDoorAvCode
set_option linter.all false
open List (getElem?_append_left length_append length_cons mem_append)
open Nat (add_mul add_zero le_refl succ_mul)
open Array (getElem?_toList)
open Go Go.Av
variable{α:Type}{r:A8}{v:AV}{J:Array Value}{b:Bool}{g':Gh}{m n:Int}{k:IntKind}{xs ys:List AV}{B':List Ob}{T':List Tok}{Vs:List Value}{j o sz:Nat}{e:Op}{x y:Operand}{dst:Option Tmp}{T U:TypeId}{u:Value}{w':World}
namespace Go.Av
open Go
variable [AL]
inductive B6 where
  |bool|int (k:IntKind)|string|slice|struct|array (n:Nat)|pointer|map|iface|func|other
  deriving DecidableEq
structure TI where
  kind:B6
  size:Nat
  bytes:Nat
  agg:Bool
  zero:AV
  fields:List (Nat×Nat×Bool)
  elem:Nat
def tD:TypeDesc->B6
  | .bool => .bool
  | .int k => .int k
  | .string => .string
  | .slice _ => .slice
  | .struct _ => .struct
  | .array n _ => .array n
  | .pointer _ => .pointer
  | .map _ _ => .map
  | .interface _ => .iface
  | .func _ _ _ => .func
  |_ => .other
def Jg:TypeDesc->Nat
  | .slice e=>e
  | .array _ e=>e
  | .pointer e=>e
  | .map _ e=>e
  |_=>0
def Dy:TypeDesc->Bool
  | .struct _ | .array _ _=>true
  |_=>false
def oD(P:Program):TypeDesc->List (Nat×Nat×Bool)
  | .struct fs=>fs.toList.map λf=>(f.offset,P.cellsOf f.type,((P.underlying f.type).map Dy).getD false)
  |_=>[]
structure CD(P:Program)(t:TypeId)(i:TI):Prop where
  ex:∃info d z,P.info? t=some info/\P.underlying t=some d/\tD d=i.kind/\Jg d=i.elem/\Dy d=i.agg/\info.size=i.size/\info.bytes=i.bytes/\
    info.zero=some z/\qL z=i.zero/\z.cells.size=i.size/\oD P d=i.fields/\(z.cells.toList.all λv=>v.oneCell')=true/\
    (∀fs,d = .struct fs->∀f∈fs.toList,(P.info? f.type).isSome=true/\(P.underlying f.type).isSome=true)
def Bm(P:Program):List (Nat×TI)->Prop
  |[]=>True
  |(t,i)::l=>CD P t i/\Bm P l
def Tx:List (Nat×TI)->Nat->Option TI
  |[],_=>none
  |(t,i)::l,u=>bif Nat.beq t u then some i else Tx l u
class Lay(P:Program) where
  L:List (Nat×TI)
  ok:Bm P L
  c0:P.follows .mixedOrders=true
theorem Bm.get{P:Program}:∀ {L:List (Nat×TI)},Bm P L->∀ {t:Nat} {i:TI},Tx L t=some i->CD P t i
  |[],_,_,_,h=>by cases h
  |(t', c)::l,⟨b,a⟩,t,i,h=>by
    unfold Tx at h;cases e:Nat.beq t' t with
    |true=>simp_all
    |false=>rw[e]at h;exact a.get h
def ty?(P:Program)[Lay P](t:Nat):Option TI:=Tx (Lay.L P) t
def eH{P:Program}[Lay P]{t:Nat}{i:TI}(h:ty? P t=some i):CD P t i:=Bm.get Lay.ok h
def lk? :AE->Nat->Option AV
  |[],_=>none
  |(t,v)::s,u=>bif Nat.beq t u then some v else lk? s u
def const? :Value->Option AV
  | .bool b=>some (.bool b)
  | .int k n=>some (.int k n)
  | .string ⟨⟨l⟩⟩=>some (.str l)
  | .pointer none=>some .nilp
  | .slice none 0 0=>some (.slice [] .nil)
  | .map none=>some .nilmap
  | .nilFunc=>some .nilfn
  | .nilIface=>some .nili
  | .agg cs=>bif cs.toList.all (·.oneCell') then some (.agg (cs.toList.map yX)) else none
  |_=>none
def ev?(s:AE):Operand->Option AV
  | .tmp t=>lk? s t
  | .const v=>const? v
  | .global g=>Je AL.table g
  | .func f=>some (.fn (.func f) [] [])
theorem gY:∀ {s:AE} {t:Nat} {v:AV},lk? s t=some v->lk s t=v
  |[],_,_,h=>by cases h
  |(t', a)::s,t,v,h=>by
    unfold lk? at h;unfold lk;cases e:Nat.beq t' t with
    |true=>rw[e]at h;cases h;rfl
    |false=>rw[e]at h;exact gY h
def QM{v:Value}{x:AV}(h:const? v=some x):qL v=x:=by
  cases v with
  |bool b=>cases h;rfl
  |int k n=>cases h;rfl
  |string s=>obtain⟨⟨l⟩⟩:=s;cases h;rfl
  |pointer a=>cases a<;>cases h;rfl
  |slice a l c=>
    cases a with
    |some a=>cases h
    |none=>
      cases l with
      |succ l=>cases h
      |zero=>
        cases c with
        |succ c=>cases h
        |zero=>cases h;rfl
  |map r=>cases r<;>cases h;rfl
  |nilFunc=>cases h;rfl
  |nilIface=>cases h;rfl
  |agg cs=>
    show (bif cs.toList.all (·.oneCell') then AV.agg (cs.toList.map yX) else .undef)=x;have d:(bif cs.toList.all (·.oneCell') then some (AV.agg (cs.toList.map yX)) else none)=some x:=h;cases e:cs.toList.all (·.oneCell') with
    |true=>rw[e]at d;cases d;rfl
    |false=>rw[e]at d;cases d
  |_=>cases h
theorem pW{s:AE}(h:ev? s x=some v):ev s x=v:=by
  cases x with
  |tmp t=>exact gY h
  |const c=>exact QM h
  |global g=>show (Je AL.table g).getD .undef=v;rw[show Je AL.table g=some v from h];rfl
  |func f=>cases h;rfl
section
variable {P:Program} {s:AE} {H:St}
def eY{o:Oper}(h:∀(g:Gh) (w:World) (a:Act),(∀x,x∈o.op.operands.toList->Aa g w (ev s x) (a.eval x))->∃u,(execOp a.eval o).run P w = .ok (.value u) w/\Aa g w v u):
    AZ .pure P o s H H v:=by refine⟨rfl,λτ=> ?_⟩;intro g w a next Q X d hn;obtain⟨u,b,c⟩:=h g w a d;unfold Oper.wp;rw[b];exact hn u w g (eV g w) X c
end
section rules
variable {P:Program} {A:Array Oper} {G:Bool} {K:AX->AE->St->Prop} {C:List Oper} {I:List Aj} {s:AE} {H:St}
variable {d:Tmp} {R:TypeId} {D:String} {S:Array Edge}
def aBn(h:G=true->xJ A I.reverse=true)(k:K .normal s H):AD P A G K [] I s H:=⟨h,k⟩
def cT(k:K .normal s H):AD P A false K [] I s H:=⟨(λh=>W0),k⟩
def bU{o:Oper}{t:Aj}{Y:St}(b:o.guard=none)(a:AZ t P o s H Y v)(k:AD P A G K C (t::I) (iG o.dst v s) Y):AD P A G K (o::C) I s H:=
  .inl ⟨by unfold A5;rw[b],t,v,Y,a,k⟩
def yv(A:Array Oper)(s:AE)(j:Nat):Option AV:=((A[j]?).bind (·.dst)).bind (lk? s)
def NR(h:yv A s j=some (.bool b)):∃d,(A[j]?).bind (·.dst)=some d/\lk s d = .bool b:=by
  unfold yv at h;cases e:(A[j]?).bind (·.dst) with
  |none=>rw[e]at h;cases h
  |some d=>rw[e]at h;exact⟨d,rfl,gY h⟩
def Vh{a b:Bool}(h:yv A s j=some (.bool b))(hb:b=a)(k:AD P A G K (⟨dst,e,R,D,S,none⟩::C) I s H):
    AD P A G K (⟨dst,e,R,D,S,some (j,a)⟩::C) I s H:=by
  obtain⟨d,f,g⟩:=NR h;have hw:A5 A s ⟨dst,e,R,D,S,some (j,a)⟩ true:=⟨d,f, .inl ⟨b,g,by subst hb;simp⟩⟩;rcases k with⟨_,t,v,Y,c,hr⟩|⟨hf,_⟩|⟨hd,_,x,Y,c,hr⟩
  · exact .inl ⟨hw,t,v,Y,c,hr⟩
  · cases (show false=true from hf)
  · exact .inr (.inr ⟨hd,hw,x,Y,c,hr⟩)
def aBo{f:Op}{a b:Bool}(h:yv A s j=some (.bool b))(hb:b = !a)(k:AD P A G K C (.pure::I) (iG dst (.tup []) s) H):
    AD P A G K (⟨dst,f,R,D,S,some (j,a)⟩::C) I s H:=by obtain⟨d,c,e⟩:=NR h;exact .inr (.inl ⟨⟨d,c, .inl ⟨b,e,by subst hb;cases a<;>rfl⟩⟩,k⟩)
def VR{b:Op}{a:Bool}(h:yv A s j=some (.tup []))(k:AD P A G K C (.pure::I) (iG dst (.tup []) s) H):
    AD P A G K (⟨dst,b,R,D,S,some (j,a)⟩::C) I s H:=by
  unfold yv at h;cases e:(A[j]?).bind (·.dst) with
  |none=>rw[e]at h;cases h
  |some d=>rw[e]at h;exact .inr (.inl ⟨⟨d,e, .inr ⟨gY h,rfl⟩⟩,k⟩)
def fH{d:Op}{a b:Bool}(h:yv A s j=some (.bool b))(g:b=a->AD P A G K (⟨dst,d,R,D,S,none⟩::C) I s H)
    (f:b=(!a)->AD P A G K C (.pure::I) (iG dst (.tup []) s) H):AD P A G K (⟨dst,d,R,D,S,some (j,a)⟩::C) I s H:=by
  by_cases e:b=a
  · exact Vh h e (g e)
  · have c:b = !a:=by cases b<;>cases a<;>simp_all
    exact aBo h c (f c)
def VS(h:ev? s x=some v)(k:AD P A G K C (.pure::I) ((d,v)::s) H):AD P A G K (⟨some d, .move x,R,D,S,none⟩::C) I s H:=
  bU rfl (eY λg w a b=>⟨a.eval x,rfl,Zt⟩) k
def QN(h:ev? s x=some v)(k:AD P A G K C (.pure::I) ((d,v)::s) H):AD P A G K (⟨some d, .assign x,R,D,S,none⟩::C) I s H:=
  bU rfl (eY λg w a b=>⟨a.eval x,rfl,Zt⟩) k
def Kk{c x y:Operand}(O:ev? s c=some (.bool b))(hb:b=true)(h:ev? s x=some v)(k:AD P A G K C (.pure::I) ((d,v)::s) H):
    AD P A G K (⟨some d, .pick c x y,R,D,S,none⟩::C) I s H:=
  bU rfl (eY λg w a i=>by have f:=i c We;rw[pW O,hb]at f;have e:a.eval c = .bool true:=f;refine⟨a.eval x, ?_,by rw[<-pW h];exact i x We⟩;simp[execOp,e,asBool]) k
def Jh{c x y:Operand}(O:ev? s c=some (.bool b))(hb:b=false)(h:ev? s y=some v)(k:AD P A G K C (.pure::I) ((d,v)::s) H):
    AD P A G K (⟨some d, .pick c x y,R,D,S,none⟩::C) I s H:=
  bU rfl (eY λg w a i=>by have f:=i c We;rw[pW O,hb]at f;have e:a.eval c = .bool false:=f;refine⟨a.eval y, ?_,by rw[<-pW h];exact i y We⟩;simp[execOp,e,asBool]) k
def aBp(h:ev? s x=some (.bool b))(k:AD P A G K C (.pure::I) ((d, .bool (!b))::s) H):AD P A G K (⟨some d, .unOp .not T x,R,D,S,none⟩::C) I s H:=
  bU rfl (eY λg w a f=>by have e:=f x We;rw[pW h]at e;have c:a.eval x = .bool b:=e;refine⟨.bool (!b), ?_,rfl⟩;simp[execOp,c,Op.unary]) k
def fC{e:BinOp}{l m r:AV}(hx:ev? s x=some l)(n:ev? s y=some m)
    (hr:∀(g:Gh) (w:World) (a b:Value),Aa g w l a->Aa g w m b->∃u,(do eqGuard e T x y a b;Go.binOp e T a b:Sem Value).run P w = .ok u w/\Aa g w r u)
    (k:AD P A G K C (.pure::I) ((d,r)::s) H):AD P A G K (⟨some d, .binOp e T x y U,R,D,S,none⟩::C) I s H:=
  bU rfl (eY λg w a i=>by
    have f:=i x We
    have h:=i y We
    rw[pW hx]at f
    rw[pW n]at h
    obtain⟨u,j,c⟩:=hr g w _ _ f h
    refine⟨u, ?_,c⟩
    simp only[execOp,Sem.run_bind]at j ⊢
    rw[j]
    rfl) k
def Kl(hx:ev? s x=some (.int k m))(c:ev? s y=some (.int k n))(e:AD P A G K C (.pure::I) ((d, .int k (k.wrap (m+n)))::s) H):
    AD P A G K (⟨some d, .binOp .add T x y U,R,D,S,none⟩::C) I s H:=
  fC hx c (λg w a b ha hb=>by cases (show a=_ from ha);cases (show b=_ from hb);exact⟨.int k (k.wrap (m+n)),Yh,rfl⟩) e
def QP(hx:ev? s x=some (.int k m))(c:ev? s y=some (.int k n))(e:AD P A G K C (.pure::I) ((d, .int k (k.wrap (m-n)))::s) H):
    AD P A G K (⟨some d, .binOp .sub T x y U,R,D,S,none⟩::C) I s H:=
  fC hx c (λg w a b ha hb=>by cases (show a=_ from ha);cases (show b=_ from hb);exact⟨.int k (k.wrap (m-n)),Yh,rfl⟩) e
def aBq(hx:ev? s x=some (.int k m))(c:ev? s y=some (.int k n))(e:AD P A G K C (.pure::I) ((d, .int k (k.wrap (m * n)))::s) H):
    AD P A G K (⟨some d, .binOp .mul T x y U,R,D,S,none⟩::C) I s H:=
  fC hx c (λg w a b ha hb=>by cases (show a=_ from ha);cases (show b=_ from hb);exact⟨.int k (k.wrap (m * n)),Yh,rfl⟩) e
def Ty{r:Int}(hx:ev? s x=some (.int .i64 m))(a:ev? s y=some (.int .i64 n))(hr:m+n=r)(hb : -9223372036854775808<=r/\r<=9223372036854775807)
    (b:AD P A G K C (.pure::I) ((d, .int .i64 r)::s) H):AD P A G K (⟨some d, .binOp .add T x y U,R,D,S,none⟩::C) I s H:=
  Kl hx a XY
def tF{r:Int}(hx:ev? s x=some (.int .i64 m))(a:ev? s y=some (.int .i64 n))(hr:m-n=r)(hb : -9223372036854775808<=r/\r<=9223372036854775807)
    (b:AD P A G K C (.pure::I) ((d, .int .i64 r)::s) H):AD P A G K (⟨some d, .binOp .sub T x y U,R,D,S,none⟩::C) I s H:=
  QP hx a XY
def aBr(hx:ev? s x=some (.int k m))(c:ev? s y=some (.int k n))(e:AD P A G K C (.pure::I) ((d, .bool (decide (m<n)))::s) H):
    AD P A G K (⟨some d, .binOp .lss T x y U,R,D,S,none⟩::C) I s H:=
  fC hx c (λg w a b ha hb=>by cases (show a=_ from ha);cases (show b=_ from hb);exact⟨.bool (decide (m<n)),WS,rfl⟩) e
def aBs(hx:ev? s x=some (.int k m))(c:ev? s y=some (.int k n))(e:AD P A G K C (.pure::I) ((d, .bool (decide (m<=n)))::s) H):
    AD P A G K (⟨some d, .binOp .leq T x y U,R,D,S,none⟩::C) I s H:=
  fC hx c (λg w a b ha hb=>by cases (show a=_ from ha);cases (show b=_ from hb);exact⟨.bool (decide (m<=n)),WS,rfl⟩) e
def aBt(hx:ev? s x=some (.int k m))(c:ev? s y=some (.int k n))(e:AD P A G K C (.pure::I) ((d, .bool (decide (n<m)))::s) H):
    AD P A G K (⟨some d, .binOp .gtr T x y U,R,D,S,none⟩::C) I s H:=
  fC hx c (λg w a b ha hb=>by cases (show a=_ from ha);cases (show b=_ from hb);exact⟨.bool (decide (n<m)),WS,rfl⟩) e
def aBu(hx:ev? s x=some (.int k m))(c:ev? s y=some (.int k n))(e:AD P A G K C (.pure::I) ((d, .bool (decide (n<=m)))::s) H):
    AD P A G K (⟨some d, .binOp .geq T x y U,R,D,S,none⟩::C) I s H:=
  fC hx c (λg w a b ha hb=>by cases (show a=_ from ha);cases (show b=_ from hb);exact⟨.bool (decide (n<=m)),WS,rfl⟩) e
def aBv(hx:ev? s x=some (.int k m))(c:ev? s y=some (.int k n))(e:AD P A G K C (.pure::I) ((d, .bool (m==n))::s) H):
    AD P A G K (⟨some d, .binOp .eql T x y U,R,D,S,none⟩::C) I s H:=
  fC hx c (λg w a b ha hb=>by cases (show a=_ from ha);cases (show b=_ from hb);exact⟨.bool (m==n),WS,rfl⟩) e
def aBw(hx:ev? s x=some (.int k m))(c:ev? s y=some (.int k n))(e:AD P A G K C (.pure::I) ((d, .bool (m != n))::s) H):
    AD P A G K (⟨some d, .binOp .neq T x y U,R,D,S,none⟩::C) I s H:=
  fC hx c (λg w a b ha hb=>by cases (show a=_ from ha);cases (show b=_ from hb);exact⟨.bool (m != n),WS,rfl⟩) e
def nG:List UInt8->List UInt8->Bool
  |_,[]=>false
  |[],_::_=>true
  |a::x,b::y=>a<b||(a==b&&nG x y)
theorem vV:∀a b,Op.bytesLess a b=nG a b
  |a,[]=>by cases a<;>rfl
  |[],_::_=>rfl
  |a::x,b::y=>by rw[Op.bytesLess,nG,vV x y]
def aBx{m n:List UInt8}(hx:ev? s x=some (.str m))(c:ev? s y=some (.str n))(e:AD P A G K C (.pure::I) ((d, .bool (m==n))::s) H):
    AD P A G K (⟨some d, .binOp .eql T x y U,R,D,S,none⟩::C) I s H:=
  fC hx c (λg w a b ha hb=>by cases (show a=_ from ha);cases (show b=_ from hb);exact⟨.bool (m==n),by simp[eqGuard,Go.binOp,Op.stringOp],rfl⟩) e
def aBy{m n:List UInt8}(hx:ev? s x=some (.str m))(c:ev? s y=some (.str n))(e:AD P A G K C (.pure::I) ((d, .bool (m != n))::s) H):
    AD P A G K (⟨some d, .binOp .neq T x y U,R,D,S,none⟩::C) I s H:=
  fC hx c (λg w a b ha hb=>by cases (show a=_ from ha);cases (show b=_ from hb);exact⟨.bool (m != n),by simp[eqGuard,Go.binOp,Op.stringOp,bne],rfl⟩) e
def aBz{m n:List UInt8}(hx:ev? s x=some (.str m))(c:ev? s y=some (.str n))(e:AD P A G K C (.pure::I) ((d, .bool (nG m n))::s) H):
    AD P A G K (⟨some d, .binOp .lss T x y U,R,D,S,none⟩::C) I s H:=
  fC hx c (λg w a b ha hb=>by cases (show a=_ from ha);cases (show b=_ from hb);exact⟨.bool (nG m n),Xq,rfl⟩) e
def aCA{m n:List UInt8}(hx:ev? s x=some (.str m))(c:ev? s y=some (.str n))(e:AD P A G K C (.pure::I) ((d, .bool (!(nG m n||m==n)))::s) H):
    AD P A G K (⟨some d, .binOp .gtr T x y U,R,D,S,none⟩::C) I s H:=
  fC hx c (λg w a b ha hb=>by cases (show a=_ from ha);cases (show b=_ from hb);exact⟨.bool (!(nG m n||m==n)),Xq,rfl⟩) e
def aCB{m n:List UInt8}(hx:ev? s x=some (.str m))(c:ev? s y=some (.str n))(e:AD P A G K C (.pure::I) ((d, .bool (nG m n||m==n))::s) H):
    AD P A G K (⟨some d, .binOp .leq T x y U,R,D,S,none⟩::C) I s H:=
  fC hx c (λg w a b ha hb=>by cases (show a=_ from ha);cases (show b=_ from hb);exact⟨.bool (nG m n||m==n),Xq,rfl⟩) e
def aCC{m n:List UInt8}(hx:ev? s x=some (.str m))(c:ev? s y=some (.str n))(e:AD P A G K C (.pure::I) ((d, .bool (!nG m n))::s) H):
    AD P A G K (⟨some d, .binOp .geq T x y U,R,D,S,none⟩::C) I s H:=
  fC hx c (λg w a b ha hb=>by cases (show a=_ from ha);cases (show b=_ from hb);exact⟨.bool (!nG m n),Xq,rfl⟩) e
def QQ{m n:List UInt8}(hx:ev? s x=some (.str m))(f:ev? s y=some (.str n))(hb:m.length+n.length<=9223372036854775807)(h:AD P A G K C (.pure::I) ((d, .str (m++n))::s) H):
    AD P A G K (⟨some d, .binOp .add T x y U,R,D,S,none⟩::C) I s H:=
  fC hx f (λg w a b ha hb'=> by
    cases (show a=_ from ha);cases (show b=_ from hb');refine⟨.string ⟨(m++n).toArray⟩, ?_,rfl⟩;have e:(⟨m.toArray⟩:ByteArray)++⟨n.toArray⟩=⟨(m++n).toArray⟩:=by apply ByteArray.ext;simp_all
    have i:(⟨m.toArray⟩:ByteArray).size=m.length:=XT
    have j:(⟨n.toArray⟩:ByteArray).size=n.length:=XT
    have hs:¬(((m.length+n.length:Nat):Int)>IntKind.i64.max):=by simp only[IntKind.max,IntKind.signed,IntKind.bits,if_true];omega
    have c:Go.binOp .add T (.string ⟨m.toArray⟩) (.string ⟨n.toArray⟩)=pure (.string ⟨(m++n).toArray⟩):=by unfold Go.binOp Op.stringOp;grind
    rw[c];simp[eqGuard]) h
end rules
def NS{α:Type}:Nat->List AV->(List AV->Option α)->Option α
  |0,_,k=>k []
  |n+1,x::l,k=>NS n l λr=>k (x::r)
  |_+1,[],_=>none
def HV:Nat->List AV->List AV
  |0,l=>l
  |n+1,_::l=>HV n l
  |_+1,[]=>[]
def dN{α:Type}:List α->Option Nat
  |[]=>some 0
  |[_]=>some 1
  |[_,_]=>some 2
  |[_,_,_]=>some 3
  |[_,_,_,_]=>some 4
  |[_,_,_,_,_]=>some 5
  |[_,_,_,_,_,_]=>some 6
  |[_,_,_,_,_,_,_]=>some 7
  |[_,_,_,_,_,_,_,_]=>some 8
  |[_,_,_,_,_,_,_,_,_]=>some 9
  |[_,_,_,_,_,_,_,_,_,_]=>some 10
  |[_,_,_,_,_,_,_,_,_,_,_]=>some 11
  |[_,_,_,_,_,_,_,_,_,_,_,_]=>some 12
  |l=>some l.length
def cut(agg:Bool)(n off:Nat)(cs:List AV):Option AV:=
  match agg with
  |true=>NS n (HV off cs) λr=>some (.agg r)
  |false=>match HV off cs with
    |c::_=>some c
    |[]=>none
def kO{α:Type}(v:AV)(k:List AV->Option α):Option α:=
  match v with
  | .agg cs=>k cs
  | .undef=>none
  | .tup _=>none
  | .bool b=>k [.bool b]
  | .int i n=>k [.int i n]
  | .str s=>k [.str s]
  | .slice xs t=>k [.slice xs t]
  | .ptr i o=>k [.ptr i o]
  | .ac x=>k [.ac x]
  | .nilp=>k [.nilp]
  | .praw a=>k [.praw a]
  | .fn f a b=>k [.fn f a b]
  | .nilfn=>k [.nilfn]
  | .iface t x=>k [.iface t x]
  | .nili=>k [.nili]
  | .map i=>k [.map i]
  | .nilmap=>k [.nilmap]
  | .iter i=>k [.iter i]
  | .view xs n=>k [.view xs n]
  | .aa i z n l h=>k [.aa i z n l h]
  | .ao i z n j o=>k [.ao i z n j o]
def fits(agg:Bool)(n:Nat):AV->Bool
  | .agg cs=>agg&&Nat.beq cs.length n
  | .undef=>false
  | .tup _=>false
  |_ => !agg&&Nat.beq n 1
def Ck{α:Type}:Nat->List AV->List AV->(List AV->Option α)->Option α
  |0,vs,cs,k=>go vs cs k
  |n+1,vs,c::cs,k=>Ck n vs cs λr=>k (c::r)
  |_+1,_,[],_=>none
where
  go:List AV->List AV->(List AV->Option α)->Option α
    |[],cs,k=>k cs
    |v::vs,_::cs,k=>go vs cs λr=>k (v::r)
    |_::_,[],_=>none
def Tz{α:Type}:Nat->List Ob->(Ob->(Ob->Option α)->Option α)->(List Ob->Option α)->Option α
  |0,o::B,f,k=>f o λo'=> k (o':: B)
  |n+1,o::B,f,k=>Tz n B f λr=>k (o::r)
  |_,[],_,_=>none
def kP{α β:Type}:List β->β->(List β->Option α)->Option α
  |[],o,k=>k [o]
  |x::B,o,k=>kP B o λr=>k (x::r)
def FH{α:Type}:∀(n:Nat) (l:List AV) (k:List AV->Option α) (r:α),NS n l k=some r->n<=l.length/\k (l.take n)=some r
  |0,l,k,r,h=>⟨Nat.zero_le _,by simpa [NS]using h⟩
  |n+1,x::l,k,r,h=>by have:=FH n l _ r h;simp_all
  |n+1,[],k,r,h=>W0
theorem Cl:∀(n:Nat) (l:List AV),HV n l=l.drop n
  |0,l=>rfl
  |n+1,x::l=>by rw[HV,Cl n l];rfl
  |n+1,[]=>rfl
def vW{agg:Bool}{n a:Nat}{cs:List AV}(h:cut agg n a cs=some v):
    (agg=true/\a+n<=max cs.length a/\v = .agg ((cs.drop a).take n)/\n<=(cs.drop a).length)\/(agg=false/\cs[a]? =some v):=by
  unfold cut at h;cases agg with
  |true=>obtain⟨d,e⟩:=FH _ _ _ _ h;rw[Cl]at d e;grind
  |false=>
    right;simp only[Cl]at h;cases b:cs.drop a with
    |nil=>rw[b]at h;cases h
    |cons c l=>
      rw[b]at h;cases h;have:(cs.drop a)[0]? =some v:=W4
      grind
def yZ:AV->List AV
  | .agg cs=>cs
  |v=>[v]
def Km{k:List AV->Option α}{r:α}(h:kO v k=some r):k (yZ v)=some r/\kO v some=some (yZ v):=by cases v<;>first|exact⟨h,rfl⟩|cases h
def jL{k:List AV->Option α}{r:α}(h:kO v k=some r){g:Gh}{w:World}(d:Aa g w v u):
    ∃cs,k cs=some r/\AM g w cs u.cells.toList/\(∀x∈u.cells.toList,x.oneCell'= true):=by
  cases v with
  |agg cs=>obtain⟨vs,rfl,e,m⟩:=d;exact⟨cs,h,e,m⟩
  |undef=>cases h
  |tup cs=>cases h
  |bool b=>cases (show u=_ from d);exact⟨_,h,⟨_,[],rfl,rfl,rfl⟩,Wo⟩
  |int i n=>cases (show u=_ from d);exact⟨_,h,⟨_,[],rfl,rfl,rfl⟩,Wo⟩
  |str s=>cases (show u=_ from d);exact⟨_,h,⟨_,[],rfl,rfl,rfl⟩,Wo⟩
  |slice xs t=>have c:=d;obtain⟨a,cap,sz,Vs,rfl,_⟩:=d;exact⟨_,h,⟨_,[],rfl,c,rfl⟩,Wo⟩
  |ptr i o=>have c:=d;obtain⟨b,_,rfl⟩:=d;exact⟨_,h,⟨_,[],rfl,c,rfl⟩,Wo⟩
  |ac x=>have c:=d;obtain⟨b,o,V,rfl,_⟩:=d;exact⟨_,h,⟨_,[],rfl,c,rfl⟩,Wo⟩
  |nilp=>cases (show u=_ from d);exact⟨_,h,⟨_,[],rfl,rfl,rfl⟩,Wo⟩
  |praw a=>cases (show u=_ from d);exact⟨_,h,⟨_,[],rfl,rfl,rfl⟩,Wo⟩
  |fn f a b=>have c:=d;obtain⟨vs,ws,rfl,_⟩:=d;exact⟨_,h,⟨_,[],rfl,c,rfl⟩,Wo⟩
  |nilfn=>cases (show u=_ from d);exact⟨_,h,⟨_,[],rfl,rfl,rfl⟩,Wo⟩
  |iface t x=>have c:=d;obtain⟨y,rfl,_⟩:=d;exact⟨_,h,⟨_,[],rfl,c,rfl⟩,Wo⟩
  |nili=>cases (show u=_ from d);exact⟨_,h,⟨_,[],rfl,rfl,rfl⟩,Wo⟩
  |map i=>have c:=d;obtain⟨b,_,rfl⟩:=d;exact⟨_,h,⟨_,[],rfl,c,rfl⟩,Wo⟩
  |nilmap=>cases (show u=_ from d);exact⟨_,h,⟨_,[],rfl,rfl,rfl⟩,Wo⟩
  |iter i=>have c:=d;obtain⟨b,_,rfl⟩:=d;exact⟨_,h,⟨_,[],rfl,c,rfl⟩,Wo⟩
  |view xs n=>have c:=d;obtain⟨a,cap,sz,Vs,rfl,_⟩:=d;exact⟨_,h,⟨_,[],rfl,c,rfl⟩,Wo⟩
  |ao i z n j o=>have c:=d;obtain⟨b,o,rfl,_⟩:=d;exact⟨_,h,⟨_,[],rfl,c,rfl⟩,Wo⟩
  |aa i z n l p=>have c:=d;obtain⟨a,cap,rfl,_⟩:=d;exact⟨_,h,⟨_,[],rfl,c,rfl⟩,Wo⟩
def nJ{agg:Bool}{n:Nat}(h:fits agg n v=true){g:Gh}{w:World}(d:Aa g w v u):
    u.cells.size=n/\(agg=true->∃vs,u = .agg vs/\vs.size=n)/\(agg=false->u.cells = #[u]/\n=1)/\(∀x∈u.cells.toList,x.oneCell'= true):=by
  have c:∀(agg:Bool),(!agg&&Nat.beq n 1)=true->u.cells = #[u]->u.oneCell'= true->u.cells.size=n/\(agg=true->∃vs,u = .agg vs/\vs.size=n)/\(agg=false->u.cells = #[u]/\n=1)/\(∀x∈u.cells.toList,x.oneCell'= true):=Xu
  cases v with
  |agg cs=>
    obtain⟨vs,rfl,k,m⟩:=d;simp only[fits,Bool.and_eq_true]at h;have h3:cs.length=n:=Nat.eq_of_beq_eq_true h.2;have h4:vs.size=n:=by have:=k.length;simp at this;omega
    refine⟨h4,λ_=>⟨vs,rfl,h4⟩,λe=> ?_,m⟩;simp_all
  |undef=>cases h
  |tup cs=>cases h
  |slice xs t=>obtain⟨a,cap,sz,Vs,rfl,_⟩:=d;exact c agg h rfl rfl
  |ptr i o=>obtain⟨b,_,rfl⟩:=d;exact c agg h rfl rfl
  |ac x=>obtain⟨b,o,V,rfl,_⟩:=d;exact c agg h rfl rfl
  |fn f a b=>obtain⟨vs,ws,rfl,_⟩:=d;exact c agg h rfl rfl
  |iface t x=>obtain⟨y,rfl,_⟩:=d;exact c agg h rfl rfl
  |map i=>obtain⟨b,_,rfl⟩:=d;exact c agg h rfl rfl
  |iter i=>obtain⟨b,_,rfl⟩:=d;exact c agg h rfl rfl
  |view xs n=>obtain⟨a,cap,sz,Vs,rfl,_⟩:=d;exact c agg h rfl rfl
  |aa i z n l p=>obtain⟨a,cap,rfl,_⟩:=d;exact c agg h rfl rfl
  |ao i z n j o=>obtain⟨b,o,rfl,_⟩:=d;exact c agg h rfl rfl
  |bool b=>cases (show u=_ from d);exact c agg h rfl rfl
  |int i n=>cases (show u=_ from d);exact c agg h rfl rfl
  |str s=>cases (show u=_ from d);exact c agg h rfl rfl
  |nilp=>cases (show u=_ from d);exact c agg h rfl rfl
  |praw a=>cases (show u=_ from d);exact c agg h rfl rfl
  |nilfn=>cases (show u=_ from d);exact c agg h rfl rfl
  |nili=>cases (show u=_ from d);exact c agg h rfl rfl
  |nilmap=>cases (show u=_ from d);exact c agg h rfl rfl
def Es{α:Type}:∀(vs cs:List AV) (k:List AV->Option α) (r:α),Ck.go vs cs k=some r->vs.length<=cs.length/\k (vs++cs.drop vs.length)=some r
  |[],cs,k,r,h=>⟨Nat.zero_le _,by simpa [Ck.go]using h⟩
  |v::vs,c::cs,k,r,h=>by have:=Es vs cs _ r h;simp_all
  |v::vs,[],k,r,h=>W0
def tG{α:Type}:∀(n:Nat) (vs cs:List AV) (k:List AV->Option α) (r:α),Ck n vs cs k=some r->
    n+vs.length<=cs.length/\k (cs.take n++vs++cs.drop (n+vs.length))=some r
  |0,vs,cs,k,r,h=>by have:=Es vs cs k r h;simp_all
  |n+1,vs,c::cs,k,r,h=>by have:=tG n vs cs _ r h;grind
  |n+1,vs,[],k,r,h=>W0
def HW{α:Type}:∀(i:Nat) (B:List Ob) (f:Ob->(Ob->Option α)->Option α) (k:List Ob->Option α) (r:α),Tz i B f k=some r->
    ∃o,B[i]? =some o/\f o (λa=>k (B.set i a))=some r
  |0,o::B,f,k,r,h=>⟨o,rfl,h⟩
  |n+1,o::B,f,k,r,h=>by obtain⟨d,b,c⟩:=HW n B f _ r h;simp_all
  |0,[],f,k,r,h=>by cases h
  |n+1,[],f,k,r,h=>W0
theorem eQ{α β:Type}:∀(B:List β) (o:β) (k:List β->Option α) (r:α),kP B o k=some r->k (B++[o])=some r
  |[],o,k,r,h=>h
  |x::B,o,k,r,h=>eQ B o _ r h
theorem dI{l:List α}{n:Nat}(h:dN l=some n):l.length=n:=by unfold dN at h;split at h<;>cases h<;>rfl
section
variable {g:Gh} {H:St} {w:World}
def dO(w:World)(o:Obj):World:={ w with heap:=w.heap.push o }
theorem cQ(w:World)(o:Obj){b:Nat}(h:b<w.heap.size):(dO w o).heap[b]? =w.heap[b]? :=by show (w.heap.push o)[b]? =_;grind
theorem rV(w:World)(o:Obj):(dO w o).heap[w.heap.size]? =some o:=by show (w.heap.push o)[w.heap.size]? =_;simp
theorem kB(w:World)(o:Obj):(dO w o).heap.size=w.heap.size+1:=by simp[dO]
theorem cI{w w': World}{b:Nat}(h:w'.heap[b]? =w.heap[b]?):w'.cell? ⟨b,o,none⟩=w.cell? ⟨b,o,none⟩/\w'.frozen? ⟨b,o,none⟩=w.frozen? ⟨b,o,none⟩:=
  ⟨World.cell?_of_block (a:=⟨b,o,none⟩) h,World.frozen?_of_block (a:=⟨b,o,none⟩) h⟩
def Inv.be(X:Inv g H w){b:Nat}(hb:b∈g.bx):b<w.heap.size:=by
  obtain⟨i,a,rfl⟩:=List.getElem_of_mem hb;have c:i<H.B.length:=by rw[<-X.lenB];exact a
  exact(X.ob i _ _ (List.getElem?_eq_getElem a) (List.getElem?_eq_getElem c)).lt
theorem Inv.bd(X:Inv g H w){k:Nat}(hk:g.tk[k]? =some r){b o:Nat}(c:r.a1 b o):b<w.heap.size:=by
  obtain⟨v,a⟩:=(X.tkz k r hk b o c).2.2.1;unfold World.cell? at a;cases hb:w.heap[b]? with
  |none=>simp[hb]at a
  |some x=>exact(Array.getElem?_eq_some_iff.1 hb).1
def NW(X:Inv g H w)(o:Obj)(a:∀(i b:Nat),g.bx[i]? =some b->g'.bx[i]? =some b)(c:∀b o,g.im b o->g'.im b o)(d:g'.tk=g.tk):Le g w g' (dO w o):=
  ⟨λb e h=>⟨c b e h,(cI (cQ w o (X.imlt b e h))).1⟩,a,λk r h=>⟨r,by rw[d];exact h, .inl rfl⟩⟩
def Mm(X:Inv g H w)(o:Obj)(ob:Ob)(q:∀(g': Gh),Le g w g' (dO w o)->BJ g' (dO w o) w.heap.size ob):
    Ar g w ⟨g.bx++[w.heap.size],g.tk,g.im⟩ (dO w o)/\Inv ⟨g.bx++[w.heap.size],g.tk,g.im⟩ ⟨H.B++[ob],H.T⟩ (dO w o):=by
  have d:Le g w ⟨g.bx++[w.heap.size],g.tk,g.im⟩ (dO w o):=NW X o (λi b h=>by have:=(List.getElem?_eq_some_iff.1 h).1;simpa [getElem?_append_left this]using h) (λ_ _ h=>h) rfl;refine⟨⟨d,by rw[kB];omega,rfl,rfl,rfl,λb hb _ _=>cQ w o hb,λb c hb _ _=>cI (cQ w o hb),λb c h => .inl h,λb hb=> ?_,λk r h b c j => .inr ⟨r,h,j⟩⟩, ?_⟩
  · grind
  · refine⟨by simp[X.lenB],X.lenT,λi b n f l=> ?_, ?_,λb hb c h=> ?_,λk t r hk ht=>(X.tok k t r hk ht).mono d λb c j=>(cI (cQ w o (X.bd hk j))).1,λk r hk b c j=> ?_,X.tkd,λb c h=>by have:=X.imlt b c h;rw[kB];omega,X.gl.le d⟩
    · by_cases e:i<g.bx.length
      · have p:i<H.B.length:=by rw[<-X.lenB];exact e
        simp only[getElem?_append_left e]at f;simp only[getElem?_append_left p]at l;exact(X.ob i b n f l).mono d (cQ w o (X.be (List.mem_of_getElem? f)))
      · have m:=(List.getElem?_eq_some_iff.1 f).1;simp only[length_append,length_cons,List.length_nil]at m;have e1:i=g.bx.length:=om
        subst e1;simp only[List.getElem?_append_right (le_refl _),Nat.sub_self,List.getElem?_cons_zero,Option.some.injEq]at f;rw[X.lenB]at l;simp_all
    · rw[List.nodup_append];refine⟨X.nodup,Wb,λa ha b hb e=> ?_⟩;simp at hb;have:=X.be ha;omega
    · simp only[mem_append,List.mem_singleton]at hb;rcases hb with hb|rfl
      · exact X.noim b hb c h
      · have:=X.imlt _ c h;omega
    · obtain⟨f,l,h3,h4⟩:=X.tkz k r hk b c j;have hb:=X.bd hk j;have O:=cI (o:=c) (cQ w o hb);grind
def FQ(X:Inv g H w)(cells:Array Value)(T:TypeId)(n:Nat)(hn:n<=cells.size):
    Ar g w ⟨g.bx,g.tk,λb o=>g.im b o\/(b=w.heap.size/\o<n)⟩ (dO w (.cells cells T))/\Inv ⟨g.bx,g.tk,λb o=>g.im b o\/(b=w.heap.size/\o<n)⟩ H (dO w (.cells cells T)):=by
  have c:Le g w ⟨g.bx,g.tk,λb o=>g.im b o\/(b=w.heap.size/\o<n)⟩ (dO w (.cells cells T)):=NW X _ (λ_ _ h=>h) (λ_ _ h => .inl h) rfl;refine⟨⟨c,by rw[kB];omega,rfl,rfl,rfl,λb hb _ _=>cQ w _ hb,λb a hb _ _=>cI (cQ w _ hb),λb a h=> ?_,λb hb => .inl hb,λk r h b a d => .inr ⟨r,h,d⟩⟩, ?_⟩
  · grind
  · refine⟨X.lenB,X.lenT,λi b f e j=>(X.ob i b f e j).mono c (cQ w _ (X.be (List.mem_of_getElem? e))),X.nodup,λb hb a h=> ?_,λk t r hk ht=>(X.tok k t r hk ht).mono c λb a d=>(cI (cQ w _ (X.bd hk d))).1,λk r hk b a d=> ?_,X.tkd,λb a h=> ?_,X.gl.le c⟩
    · rcases h with h|⟨rfl,_⟩
      · exact X.noim b hb a h
      · have:=X.be hb;omega
    · obtain⟨e,j,h3,h4⟩:=X.tkz k r hk b a d;have hb:=X.bd hk d;have O:=cI (o:=a) (cQ w (.cells cells T) hb);grind
    · rw[kB];rcases h with h|⟨rfl,_⟩
      · have:=X.imlt b a h;omega
      · omega
theorem dV(w:World)(cells:Array Value)(T:TypeId)(o:Nat):(dO w (.cells cells T)).cell? ⟨w.heap.size,o,none⟩=cells[o]? :=by unfold World.cell?;rw[rV];simp
def j5(w:World)(cells:Array Value)(T:TypeId)(o:Nat):(dO w (.cells cells T)).frozen? ⟨w.heap.size,o,none⟩=false:=by unfold World.frozen?;rw[rV];simp
def tH(w:World)(b:Nat)(J:Array Value)(T:TypeId):World:={ w with heap:=w.heap.setIfInBounds b (.cells J T (0,0)) }
def QY(w:World){b:Nat}(h:b<w.heap.size)(J:Array Value)(T:TypeId):(tH w b J T).heap[b]? =some (.cells J T (0,0)):=by show (w.heap.setIfInBounds b _)[b]? =_;simp_all
theorem pO(w:World){b c:Nat}(h:c≠b)(J:Array Value)(T:TypeId):(tH w b J T).heap[c]? =w.heap[c]? :=by show (w.heap.setIfInBounds b _)[c]? =_;grind
def QZ(X:Inv g H w){i b:Nat}(hb:g.bx[i]? =some b){cs:List AV}(p:AM g w cs J.toList)(y:∀u∈J.toList,u.oneCell'= true){n:List AV}(v:H.B[i]? =some (.cells n)):
    Ar g w g (tH w b J T)/\Inv g ⟨H.B.set i (.cells cs),H.T⟩ (tH w b J T):=by
  have q:=X.be (List.mem_of_getElem? hb);have a:=List.mem_of_getElem? hb;have d:Le g w g (tH w b J T):=⟨λc o h=>by
    have f:c≠b:=λe=>X.noim b a o (e▸h)
    exact⟨h,(cI (pO w f J T)).1⟩,λ_ _ h=>h,λk r h=>⟨r,h, .inl rfl⟩⟩
  refine⟨⟨d,by simp[tH],rfl,rfl,rfl,λc O hn _=>pO w (λe=>hn XP) J T,λc o O hn _=>cI (pO w (λe=>hn XP) J T),λ_ _ h => .inl h,λ_ h => .inl h,λk r h c o m => .inr ⟨r,h,m⟩⟩, ?_⟩;refine⟨by simp[X.lenB],X.lenT,λj c ob l h3=> ?_,X.nodup,X.noim,λk t r hk ht=>(X.tok k t r hk ht).mono d λc o m=>(cI (pO w (λe=>(X.tkz k r hk c o m).2.1 XP) J T)).1,λk r hk c o m=> ?_,X.tkd,λc o h=>by simpa [tH]using X.imlt c o h,X.gl.le d⟩
  · by_cases e:j=i
    · subst e;rw[hb]at l;cases l;have hj:j<H.B.length:=(List.getElem?_eq_some_iff.1 v).1;simp only[List.getElem?_set_self hj,Option.some.injEq]at h3;subst h3;exact⟨J,T,QY w q J T,AM.mono d _ _ p,y⟩
    · simp only[List.getElem?_set_ne (Ne.symm e)]at h3;have f:c≠b:=by intro x;subst x;have:=(List.getElem?_inj (List.getElem?_eq_some_iff.1 l).1 X.nodup).1 (l.trans hb.symm);exact e this
      exact(X.ob j c ob l h3).mono d (pO w f J T)
  · obtain⟨l,h3,h4,z⟩:=X.tkz k r hk c o m;have f:c≠b:=λe=>h3 (e▸a)
    have O:=cI (o:=o) (pO w f J T);simp_all
end
section tools
variable {P:Program} [Lay P]
omit [Lay P] in
theorem rW{t:TypeId}{i:TypeInfo}(h:P.info? t=some i)(w:World):(typeInfo t).run P w = .ok i w:=by simp[typeInfo,h]
theorem FR{t:TypeId}{b:TI}(h:ty? P t=some b)(w:World):(isAgg t).run P w = .ok b.agg w:=by obtain⟨a,d,z,f,c,h3,h4,e,g,_⟩:=(eH h).ex;unfold isAgg;simp only[Sem.run_bind,run_underlying c,Result.andThen];rw[<-e];cases d<;>rfl
theorem dA{t:TypeId}{b:TI}(h:ty? P t=some b)(w:World):(sizeOf t).run P w = .ok b.size w:=by obtain⟨a,d,z,c,e,h3,h4,f,g,_⟩:=(eH h).ex;unfold sizeOf;simp only[Sem.run_bind,rW c,Result.andThen];simp_all
def nP{t:TypeId}{c:TI}(h:ty? P t=some c)(w:World):∃z,(zeroValue t).run P w = .ok z w/\qL z=c.zero/\z.cells.size=c.size/\∀v∈z.cells.toList,v.oneCell'= true:=by obtain⟨e,d,z,f,k,h3,h4,l,m,n,i,j,a,g,b,_⟩:=(eH h).ex;refine⟨z, ?_,j,a,List.all_eq_true.1 b⟩;unfold zeroValue;simp only[Sem.run_bind,rW f,Result.andThen,i];rfl
theorem eI(b o n:Nat):(⟨b,o,none⟩:Addr).add n=⟨b,o+n,none⟩:=by simp[Addr.add]
theorem lU{t:TypeId}{a:TI}(h:ty? P t=some a){w:World}{b:Nat}{V:Value}(O:∀(j:Nat) (u:Value),V.cells[j]? =some u->w.cell? ⟨b,o+j,none⟩=some u)
    (c:a.agg=true->∃vs,V = .agg vs/\vs.size=a.size) (d:a.agg=false->V.cells = #[V]):(loadVar t ⟨b,o,none⟩).run P w = .ok V w:=by
  unfold loadVar;simp only[Sem.run_bind,FR h,Result.andThen];cases e:a.agg with
  |true=>obtain⟨vs,rfl,hs⟩:=c e;simp only[if_true,Sem.run_bind,dA h,Result.andThen];have:=run_loadCells_list (P:=P) w ⟨b,o,none⟩ vs.toList (λj u hj=>by rw[eI];exact O j u (by simpa [Value.cells]using hj));simp_all
  |false=>have h3:=O 0 V (by rw[d e];rfl);simp_all
end tools
section rules
variable {P:Program} [Lay P] {A:Array Oper} {G:Bool} {K:AX->AE->St->Prop} {C:List Oper} {I:List Aj} {s:AE} {H:St}
variable {d:Tmp} {R:TypeId} {D:String} {S:Array Edge}
def op1{o:Oper}(hx:ev? s x=some v){g:Gh}{w:World}{a:Act}(b:x∈o.op.operands.toList)(c:∀x,x∈o.op.operands.toList->Aa g w (ev s x) (a.eval x)):Aa g w v (a.eval x):=by have:=c x b;rwa [pW hx]at this
def Q0{y:AV}{c:TI}(hT:ty? P T=some c)(hx:ev? s x=some (.ac y))(hf:fits c.agg c.size y=true)(k:AD P A G K C (.pure::I) ((d,y)::s) H):
    AD P A G K (⟨some d, .load T x,R,D,S,none⟩::C) I s H:=
  bU rfl (eY λg w a m=>by have i:=op1 hx We m;obtain⟨b,o,V,e,l,h3⟩:=i;obtain⟨n,f,h,p⟩:=nJ hf h3;refine⟨V, ?_,h3⟩;simp only[execOp,e,Instr.loadAt,Instr.sureAddr,Sem.run_bind,Sem.run_pure,Result.andThen];rw[lU hT (λj u hj=>(l j u hj).2.1) f (λe=>(h e).1)]) k
def Ku{P:Program}[Lay P]{H:St}{i a b:Nat}{cs:List AV}{c:TI}{g:Gh}{w:World}(hT:ty? P T=some c)(X:Inv g H w)(hb:g.bx[i]? =some b)(q:H.B[i]? =some (.cells cs))(x:cut c.agg c.size a cs=some v):
    ∃V,Aa g w v V/\(loadVar T ⟨b,a,none⟩).run P w = .ok V w:=by
    obtain⟨J,T', t,k,f⟩:=X.ob i b _ hb q;have d:∀j,w.cell? ⟨b,j,none⟩=J[j]? :=by intro j;unfold World.cell?; rw[t];simp
    obtain⟨V,r,p,h3,h4⟩:∃V,Aa g w v V/\(∀(j:Nat) (u:Value),V.cells[j]? =some u->w.cell? ⟨b,a+j,none⟩=some u)/\(c.agg=true->∃vs,V = .agg vs/\vs.size=c.size)/\(c.agg=false->V.cells = #[V]):=by
      rcases vW x with⟨ha,_,rfl,o⟩|⟨ha,hg⟩
      · have l:=(k.drop a).take c.size;have m:((J.toList.drop a).take c.size).length=c.size:=by have:=(k.drop a).length;simp_all
        refine⟨.agg ((J.toList.drop a).take c.size).toArray,⟨_,rfl,XR,λu n=> ?_⟩,λj u hj=> ?_,λ_=>⟨_,rfl,by simpa using m⟩,λe=> ?_⟩
        · grind
        · rw[d];simp only[Value.cells,List.getElem?_toArray,List.getElem?_take,List.getElem?_drop,getElem?_toList]at hj;simp_all
        · simp_all
      · obtain⟨u,n,hr⟩:=k.get hg;rw[getElem?_toList]at n;have h:=f u (by simpa using Array.mem_of_getElem? n);have O:u.cells = #[u]:=by cases u<;>first|rfl|cases h
        grind
    exact⟨V,r,lU hT p h3 h4⟩
def Q3{i f:Nat}{cs:List AV}{j:TI}(hT:ty? P T=some j)(hx:ev? s x=some (.ptr i f))(m:H.B[i]? =some (.cells cs))(p:cut j.agg j.size f cs=some v)
    (k:AD P A G K C (.ri i::I) ((d,v)::s) H):AD P A G K (⟨some d, .load T x,R,D,S,none⟩::C) I s H:=
  bU (t := .ri i) rfl ⟨rfl,λB τ h=>by intro g w a next Q X o hn;have l:=op1 hx We o;obtain⟨b,hb,e⟩:=l;obtain⟨V,n,c⟩:=Ku (H:=⟨B,τ⟩) hT X hb (h.trans m) p;unfold Oper.wp;simp only[execOp,e,Instr.loadAt,Instr.sureAddr,Sem.run_bind,Sem.run_pure,Result.andThen];rw[c];exact hn V w g (eV g w) X n⟩ k
def Pk{f i j o n:Nat}{ag:Bool}{y:TI}{r:Nat}(hT:ty? P T=some y)(hx:ev? s x=some (.ptr i j))(hf:y.fields[f]? =some (o,n,ag))(hk:y.kind = .struct)(hn:Nat.blt 0 n=true)
    (hr:j+o=r) (k:AD P A G K C (.pure::I) ((d, .ptr i r)::s) H):AD P A G K (⟨some d, .fieldAddr T x f,R,D,S,none⟩::C) I s H:=
  bU rfl (eY λg w a ho=>by
    have h1:=op1 hx We ho;obtain⟨b,hb,e⟩:=h1;refine⟨.pointer (some ⟨b,j+o,none⟩), ?_,⟨b,hb,by rw[hr]⟩⟩;obtain⟨a1,dd,z,t1,t2,t3,t4,t5,t6,t7,t8,t9,a7,u,a8,v⟩:=(eH hT).ex;have hd:∃fs,dd = .struct fs:=Wk
    obtain⟨fs,rfl⟩:=hd;rw[<-u]at hf;simp only[oD,List.getElem?_map,Option.map_eq_some_iff,Prod.mk.injEq]at hf;obtain⟨m,c,rfl,hs,_⟩:=hf;rw[getElem?_toList]at c;have l:=v fs rfl m Xw;have q:(sizeOf m.type).run P w = .ok n w:=by
      unfold sizeOf;cases h:P.info? m.type with
      |none=>rw[h]at l;simp at l
      |some t=>
        have:P.cellsOf m.type=t.size:=Ze
        simp only[Sem.run_bind,rW h,Result.andThen];simp_all
    have p:n≠0:=Yc
    simp only[execOp,e,Instr.fieldAt,Sem.run_bind,run_underlying t2,Result.andThen,c,Instr.sureAddr,Sem.run_pure,fieldPlace,q,if_neg p,eI]) k
def Pm{f n:Nat}{ag:Bool}{ti:TI}{cs:List AV}{y:AV}(hT:ty? P T=some ti)(hx:ev? s x=some (.ac (.agg cs)))(hf:ti.fields[f]? =some (o,n,ag))(hk:ti.kind = .struct)(hn:Nat.blt 0 n=true)
    (hy:cut ag n o cs=some y) (k:AD P A G K C (.pure::I) ((d, .ac y)::s) H):AD P A G K (⟨some d, .fieldAddr T x f,R,D,S,none⟩::C) I s H:=
  bU rfl (eY λg w a ho=>by
    have h1:=op1 hx We ho;obtain⟨b,i,V,e,hm,vs,rfl,hl,m⟩:=h1;refine⟨.pointer (some ⟨b,i+o,none⟩), ?_, ?_⟩
    · obtain⟨a9,dd,z,t1,t2,t3,t4,t5,t6,t7,t8,t9,af,a1,ah,a2⟩:=(eH hT).ex;have hd:∃fs,dd = .struct fs:=by rw[hk]at t3;cases dd<;>first|exact⟨_,rfl⟩|cases t3
      obtain⟨fs,rfl⟩:=hd;rw[<-a1]at hf;simp only[oD,List.getElem?_map,Option.map_eq_some_iff,Prod.mk.injEq]at hf;obtain⟨p,c,rfl,hs,_⟩:=hf;rw[getElem?_toList]at c;have l:=a2 fs rfl p Xw;have v:(sizeOf p.type).run P w = .ok n w:=by
        unfold sizeOf;cases h:P.info? p.type with
        |none=>rw[h]at l;simp at l
        |some a0=>
          have:P.cellsOf p.type=a0.size:=Ze
          simp only[Sem.run_bind,rW h,Result.andThen];simp_all
      have t:n≠0:=Yc
      simp only[execOp,e,Instr.fieldAt,Sem.run_bind,run_underlying t2,Result.andThen,c,Instr.sureAddr,Sem.run_pure,fieldPlace,v,if_neg t,eI]
    · rcases vW hy with⟨ha,_,rfl,a7⟩|⟨ha,hg⟩
      · refine⟨b,i+o, .agg ((vs.toList.drop o).take n).toArray,rfl,λj u hj=> ?_,⟨_,rfl,by simpa using (hl.drop o).take n,λu q=> ?_⟩⟩
        · simp only[Value.cells,List.getElem?_toArray,List.getElem?_take,List.getElem?_drop,getElem?_toList]at hj;split at hj
          · have:=hm (o+j) u hj;grind
          · cases hj
        · grind
      · obtain⟨u,q,hr⟩:=hl.get hg;rw[getElem?_toList]at q;have r:=m u (by simpa using Array.mem_of_getElem? q);have O:u.cells = #[u]:=by cases u<;>first|rfl|cases r
        refine⟨b,i+o,u,rfl,λj u' hj=> ?_,hr⟩;rw[O]at hj;cases j with
        |zero=>simp at hj;subst hj;exact hm o u q
        |succ j=>simp at hj) k
def TD{f n:Nat}{q:Bool}{ti:TI}{cs:List AV}{y:AV}(hT:ty? P T=some ti)(hx:ev? s x=some (.agg cs))(hf:ti.fields[f]? =some (o,n,q))(hk:ti.kind = .struct)
    (hy:cut q n o cs=some y) (k:AD P A G K C (.pure::I) ((d,y)::s) H):AD P A G K (⟨some d, .field T x f,R,D,S,none⟩::C) I s H:=
  bU rfl (eY λg w a ho=>by
    have h1:=op1 hx We ho;obtain⟨vs,e,hl,p⟩:=h1;obtain⟨a6,dd,z,t1,t2,t3,t4,t5,t6,t7,t8,t9,ac,a0,ad,a1⟩:=(eH hT).ex;have hd:∃fs,dd = .struct fs:=Wk
    obtain⟨fs,rfl⟩:=hd;rw[<-a0]at hf;simp only[oD,List.getElem?_map,Option.map_eq_some_iff,Prod.mk.injEq]at hf;obtain⟨b,c,rfl,hs,m⟩:=hf;rw[getElem?_toList]at c;have h:=a1 fs rfl b Xw;have t:(sizeOf b.type).run P w = .ok n w:=by
      unfold sizeOf;cases l:P.info? b.type with
      |none=>rw[l]at h;simp at h
      |some v=>
        have:P.cellsOf b.type=v.size:=by simp[Program.cellsOf,l]
        simp only[Sem.run_bind,rW l,Result.andThen];simp_all
    have j:(isAgg b.type).run P w = .ok q w:=by
      cases i:P.underlying b.type with
      |none=>rw[i]at h;simp at h
      |some r=>rw[i]at m;unfold isAgg;simp only[Sem.run_bind,run_underlying i,Result.andThen];rw[<-m];cases r<;>rfl
    rcases vW hy with⟨ha,_,rfl,a5⟩|⟨ha,hg⟩
    · refine⟨.agg (vs.extract b.offset (b.offset+n)), ?_, ?_⟩
      · simp only[execOp,e,Instr.field,Sem.run_bind,run_underlying t2,Result.andThen,c,asAgg,Sem.run_pure,part,j,ha,if_true,t]
      · have he:(vs.extract b.offset (b.offset+n)).toList=(vs.toList.drop b.offset).take n:=by simp_all
        exact⟨_,rfl,by rw[he];exact(hl.drop _).take n,λu i=>p u (by rw[he]at i;exact List.mem_of_mem_drop (List.mem_of_mem_take i))⟩
    · obtain⟨u,i,hr⟩:=hl.get hg;rw[getElem?_toList]at i;refine⟨u, ?_,hr⟩;simp only[execOp,e,Instr.field,Sem.run_bind,run_underlying t2,Result.andThen,c,asAgg,Sem.run_pure,part,j,ha,Bool.false_eq_true,if_false,i]) k
def NX{tk:Tk}{n:Int}{h:TI}(hT:ty? P T=some h)(hk:h.kind = .slice)(hx:ev? s x=some (.slice xs tk))(hn:(xs.length:Int)=n)
    (k:AD P A G K C (.pure::I) ((d, .int .i64 n)::s) H):AD P A G K (⟨some d, .call ⟨.builtin .len, #[x], #[T]⟩,R,D,S,none⟩::C) I s H:=
  bU rfl (eY λg w a m=>by
    have i:=op1 hx Wm m;obtain⟨p,cap,sz,Vs,e,q,h3,h4,j,r⟩:=i;refine⟨.int .i64 xs.length, ?_,by rw[hn];rfl⟩;obtain⟨c,b,z,t1,t2,f,_⟩:=(eH hT).ex;have l:∃e,b = .slice e:=WM
    obtain⟨o,rfl⟩:=l;simp[execOp,resolve,invoke,builtin,Builtin.len_,e,run_underlying t2,goInt,Result.andThen,j.length]) k
def VT{xs:List UInt8}{n:Int}{i:TI}(hT:ty? P T=some i)(hk:i.kind = .string)(hx:ev? s x=some (.str xs))(hn:(xs.length:Int)=n)
    (k:AD P A G K C (.pure::I) ((d, .int .i64 n)::s) H):AD P A G K (⟨some d, .call ⟨.builtin .len, #[x], #[T]⟩,R,D,S,none⟩::C) I s H:=
  bU rfl (eY λg w a m=>by
    have j:=op1 hx Wm m;have e:a.eval x = .string ⟨xs.toArray⟩:=j;refine⟨.int .i64 xs.length, ?_,by rw[hn];rfl⟩;obtain⟨f,c,z,t1,t2,h,_⟩:=(eH hT).ex;have l:c = .string:=by rw[hk]at h;cases c<;>first|rfl|cases h
    subst l;have b:(⟨xs.toArray⟩:ByteArray).size=xs.length:=XT
    simp[execOp,resolve,invoke,builtin,Builtin.len_,e,run_underlying t2,goInt,Result.andThen,b]) k
def Pn{i:Operand}{tk:Tk}{ik:IntKind}{n:Int}{y:AV}{c h:TI}(hT:ty? P T=some c)(hk:c.kind = .slice)(hE:ty? P c.elem=some h)
    (hj:n=(j:Int)) (hy:xs[j]? =some y) (hf:fits h.agg h.size y=true) {g:Gh} {w:World} {a:Act} (h1:Aa g w (.slice xs tk) (a.eval x)) (h2:a.eval i = .int ik n):
    ∃v,(execOp a.eval ⟨some d, .indexAddr T x i,R,D,S,none⟩).run P w = .ok (.value v) w/\Aa g w (.ac y) v:=by
    obtain⟨p,cap,sz,Vs,e,c1,c2,c3,hl,u,c6⟩:=h1;obtain⟨V,l,hr⟩:=hl.get hy;have b:j<Vs.length:=(List.getElem?_eq_some_iff.1 l).1;cases p with
    |none=>have:=(u rfl).1;subst this;simp at b
    |some q=>
      obtain⟨hq,hm⟩:=c6 q rfl;obtain⟨m1,m2⟩:=hm j V l;obtain⟨f1,_⟩:=nJ hf hr;obtain⟨m,k,z,t1,t2,t,t4,_⟩:=(eH hT).ex;have hd:∃e,k = .slice e:=by rw[hk]at t;cases k<;>first|exact⟨_,rfl⟩|cases t
      obtain⟨el,rfl⟩:=hd;have f:el=c.elem:=t4;subst f;obtain⟨o,r,qs⟩:=q;cases (show qs=none from hq.resolve_right (λe=>by rw[e]at b;simp at b));refine⟨.pointer (some ⟨o,r+j * sz,none⟩), ?_,⟨o,r+j * sz,V,rfl,m2,hr⟩⟩;rw[<-m1,f1];subst hj;simp[execOp,Instr.indexAt,e,h2,asIntOf,run_underlying t2,Result.andThen,dA hE,b,eI]
def HZ{i:Operand}{tk:Tk}{f:IntKind}{n:Int}{y:AV}{c b:TI}(hT:ty? P T=some c)(hk:c.kind = .slice)(hE:ty? P c.elem=some b)
    (hx:ev? s x=some (.slice xs tk)) (X:ev? s i=some (.int f n)) (hj:n=(j:Int)) (m:xs[j]? =some y) (hf:fits b.agg b.size y=true)
    (k:AD P A G K C (.pure::I) ((d, .ac y)::s) H):AD P A G K (⟨some d, .indexAddr T x i,R,D,S,none⟩::C) I s H:=
  bU rfl (eY λg w a e=>by
    have h:=op1 hx We e
    have l:a.eval i = .int f n:=op1 X We e
    exact Pn hT hk hE hj m hf h l) k
def bL{i:Operand}{xs:List UInt8}{h:IntKind}{n:Int}{y:UInt8}{o:TI}(hT:ty? P T=some o)(hk:o.kind = .string)
    (hx:ev? s x=some (.str xs)) (X:ev? s i=some (.int h n)) (hj:n=(j:Int)) (f:xs[j]? =some y)
    (k:AD P A G K C (.pure::I) ((d, .int .u8 (y.toNat:Int))::s) H):AD P A G K (⟨some d, .index T x i,R,D,S,none⟩::C) I s H:=
  bU rfl (eY λg w a e=>by
    have p:a.eval x = .string ⟨xs.toArray⟩:=op1 hx We e
    have q:a.eval i = .int h n:=op1 X We e
    obtain⟨l,c,z,t1,t2,m,t,_⟩:=(eH hT).ex
    have r:c = .string:=by rw[hk]at m;cases c<;>first|rfl|cases m
    subst r
    refine⟨.int .u8 (y.toNat:Int), ?_,rfl⟩
    subst hj
    have hb:(⟨xs.toArray⟩:ByteArray)[j]? =some y:=by
      have b:=(List.getElem?_eq_some_iff.1 f).1
      rw[getElem?_def]
      have hs:j<(⟨xs.toArray⟩:ByteArray).size:=by simpa [ByteArray.size]using b
      rw[dif_pos hs]
      congr 1
      exact(List.getElem?_eq_some_iff.1 f).2
    simp[execOp,Instr.index,p,q,asIntOf,run_underlying t2,Result.andThen,hb]) k
end rules
theorem vY{w:World}{b:Nat}{a:Array Value}(h:w.heap[b]? =some (.cells a T (0,0)))(J:Array Value):w.setRow b J=tH w b J T:=by unfold World.setRow tH;congr 1;grind
structure B4(w w': World)(b o:Nat)(vs:List Value):Prop where
  size:w'.heap.size=w.heap.size
  os:w'.os=w.os
  tape:w'.tape=w.tape
  output:w'.output=w.output
  block:∀c,c≠b->w'.heap[c]? =w.heap[c]?
  here:∀(j:Nat) (v:Value),vs[j]? =some v->w'.cell? ⟨b,o+j,none⟩=some v
  there:∀p,p<o\/o+vs.length<=p->w'.cell? ⟨b,p,none⟩=w.cell? ⟨b,p,none⟩
  frozen:∀p,w'.frozen? ⟨b,p,none⟩=w.frozen? ⟨b,p,none⟩
theorem y7(w:World)(a:Addr)(v:Value){c:Nat}(h:c≠a.block):(w.setCell a v).heap[c]? =w.heap[c]? :=by grind[World.setCell]
def tI{P:Program}(b:Nat):∀(vs:List Value) (i o:Nat) (w:World),(∀j,j<vs.length->∃v,w.cell? ⟨b,o+i+j,none⟩=some v)->(∀j,j<vs.length->w.frozen? ⟨b,o+i+j,none⟩=false)->(∀v∈vs,v.oneCell'= true)->
    ∃w', (storeCells ⟨b,o,none⟩ vs i).run P w = .ok () w'/\ B4 w w' b (o+i) vs
  |[],i,o,w,_,_,_=>⟨w,rfl,rfl,rfl,rfl,rfl,λ_ _=>rfl,λj v h=>Wp,λ_ _=>rfl,λ_=>rfl⟩
  |v::vs,i,o,w,O,hf,n=>by
    obtain⟨v0,d⟩:=O 0 Wb;have g:=hf 0 Wb;simp only[add_zero]at d g;have m:(store ((⟨b,o,none⟩:Addr).add i) v).run P w = .ok () (w.setCell ⟨b,o+i,none⟩ v):=by rw[eI,run_store P w _ v _ (n v Wb),d];simp[g]
    have hsame:(w.setCell ⟨b,o+i,none⟩ v).cell? ⟨b,o+i,none⟩=some v:=World.cell?_setCell_same w _ v d;have k:∀p,p≠o+i->(w.setCell ⟨b,o+i,none⟩ v).cell? ⟨b,p,none⟩=w.cell? ⟨b,p,none⟩:=λp hp=>World.cell?_setCell_other w _ _ v (by intro e;cases e;exact hp rfl)
    have a:∀p,(w.setCell ⟨b,o+i,none⟩ v).frozen? ⟨b,p,none⟩=w.frozen? ⟨b,p,none⟩:=λp=>Xu
    obtain⟨w', hr,hs⟩:=tI (P:=P) b vs (i+1) o (w.setCell ⟨b,o+i,none⟩ v) (λj hj=>by rw[k _ om];have:=O (j+1) Xy;rwa [show o+i+(j+1)=o+(i+1)+j by omega]at this)
      (λj hj=>by rw[a];have:=hf (j+1) Xy;rwa [show o+i+(j+1)=o+(i+1)+j by omega]at this) (λu l=>n u (by simp[l]))
    refine⟨w', ?_,by rw[hs.size];simp[World.setCell],hs.os,hs.tape,hs.output,λc f=>(hs.block c f).trans (y7 w _ v f),λj u l=> ?_,λp hp=> ?_,λp=>(hs.frozen p).trans (a p)⟩
    · simp only[storeCells,Sem.run_bind,m,Result.andThen];exact hr
    · cases j with
      |zero=>simp at l;subst l;rw[add_zero,hs.there (o+i) om];exact hsame
      |succ j=>have:=hs.here j u XR;grind
    · simp only[length_cons]at hp;rw[hs.there p om];grind
section rules
variable {P:Program} [Lay P] {A:Array Oper} {G:Bool} {K:AX->AE->St->Prop} {C:List Oper} {I:List Aj} {s:AE} {H:St}
variable {d:Tmp} {R:TypeId} {D:String} {S:Array Edge}
omit [Lay P] in
def aCD{i:Nat}(hx:ev? s x=some v)(X:dN H.B=some i)(l:kO v (λcs=>kP H.B (.cells cs) some)=some B')
    (k:AD P A G K C (.wb::I) ((d, .ptr i 0)::s) ⟨B', H.T⟩):AD P A G K (⟨some d, .box T x,R,D,S,none⟩::C) I s H:=
  bU (t := .wb) (Y:=⟨B', H.T⟩) rfl ⟨rfl,λτ=>by
    intro g w a next Q c m hn;have e:=op1 hx We m;obtain⟨cs,f,h3,h4⟩:=jL l e;have h:=eQ _ _ _ _ f;have j:H.B++[.cells cs]=B':= Option.some.inj h;obtain⟨n,o⟩:=Mm c (.cells (a.eval x).cells T) (.cells cs) (λg' b=>⟨_,T,rV w _,AM.mono b _ _ h3,h4⟩);unfold Oper.wp;refine hn _ _ _ n (j▸o) ⟨w.heap.size, ?_,rfl⟩;have:i=g.bx.length:=by rw[c.lenB];exact(dI X).symm
    rw[this];simp⟩ k
def TE{i:Nat}{e:TI}(hT:ty? P T=some e)(X:dN H.B=some i)(m:kO e.zero (λcs=>kP H.B (.cells cs) some)=some B')
    (k:AD P A G K C (.wb::I) ((d, .ptr i 0)::s) ⟨B', H.T⟩):AD P A G K (⟨some d, .alloc T,R,D,S,none⟩::C) I s H:=
  bU (t := .wb) (Y:=⟨B', H.T⟩) rfl ⟨rfl,λτ=>by
    intro g w a next Q f r hn;obtain⟨z,hz,c,n,o⟩:=nP hT w;have h:Aa g w e.zero z:=by rw[<-c];exact kM g w z
    obtain⟨cs,j,h3,h4⟩:=jL m h;have l:H.B++[.cells cs]=B':= Option.some.inj (eQ _ _ _ _ j);obtain⟨p,q⟩:=Mm f (.cells z.cells T) (.cells cs) (λg' b=>⟨_,T,rV w _,AM.mono b _ _ h3,h4⟩);unfold Oper.wp;simp only[execOp,Instr.alloc,hz,newVar,newRow,newObj,Sem.run_bind,Result.andThen,Sem.run];refine hn _ _ _ p (l▸q) ⟨w.heap.size, ?_,rfl⟩;have:i=g.bx.length:=by rw[f.lenB];exact(dI X).symm
    rw[this];simp⟩ k
def TF{i c:Nat}{ti:TI}(hT:ty? P T=some ti)(hx:ev? s x=some (.ptr i c))(hy:ev? s y=some v)(hf:fits ti.agg ti.size v=true)
    (hB:Tz i H.B (λo k=>match o with | .cells cs=>kO v (λvs=>Ck c vs cs (λr=>k (.cells r)))|_=>none) some=some B')
    (k:AD P A G K C (.wi i::I) s ⟨B', H.T⟩):AD P A G K (⟨none, .store T x y,R,D,S,none⟩::C) I s H:=by
  obtain⟨o,l,d⟩:=HW _ _ _ _ _ hB;cases o with
  |map es=>cases d
  |iter s p=>cases d
  |cells cs=>
    obtain⟨h2,a4⟩:=Km d;obtain⟨j,h5⟩:=tG _ _ _ _ _ h2;have h6:H.B.set i (.cells (cs.take c++yZ v++cs.drop (c+(yZ v).length)))=B':= Option.some.inj h5;refine bU (t := .wi i) (v := .undef) (Y:=⟨B', H.T⟩) rfl ⟨.cells (cs.take c++yZ v++cs.drop (c+(yZ v).length)),by rw[h6],λB τ h=> ?_⟩ k;intro g w a next Q hI ho hn;obtain⟨b,hb,e⟩:=op1 hx We ho;have h1:=op1 hy We ho;obtain⟨vs,z,h3,h4⟩:=jL a4 h1;have a3:vs=yZ v:=Option.some.inj z;rw[<-a3]at j hn;obtain⟨J,T', hh,hl,m⟩:=hI.ob i b _ hb (h.trans l);obtain⟨f1,_⟩:=nJ hf h1;have q:(a.eval y).cells.toList.length=vs.length:=h3.length;have a0:J.toList.length=cs.length:=hl.length;have n:=run_storeCells_at P b c T' (a.eval y).cells.toList 0 J w hh (by rw[q];simp at a0;omega) h4;rw[vY hh,add_zero]at n;have a2:AM g w (cs.take c++vs++cs.drop (c+vs.length)) (J.toList.take c++(a.eval y).cells.toList++J.toList.drop (c+(a.eval y).cells.toList.length)).toArray.toList:=by rw[List.toList_toArray,q];exact((hl.take c).append h3).append (hl.drop _)
    obtain⟨n1,n2⟩:=QZ hI hb a2 (λu f=>by
      simp only[mem_append]at f;rcases f with (f|f)|f
      · grind
      · exact h4 u f
      · exact m u (List.mem_of_mem_drop f)) (T:=T') (h.trans l)
    unfold Oper.wp;simp only[execOp,e,Instr.storeAt,Instr.sureAddr,storeVar,Sem.run_bind,Sem.run_pure,Result.andThen,dA hT,f1,ne_eq,not_true_eq_false,if_false,n];exact hn undef _ g n1 n2 trivial
end rules
def flat(Vs:List Value):List Value:=Vs.flatMap λV=>V.cells.toList
theorem lA(V:Value)(Vs:List Value):flat (V::Vs)=V.cells.toList++flat Vs:=rfl
theorem gU(Us Vs:List Value):flat (Us++Vs)=flat Us++flat Vs:=Y2
theorem cZ{sz:Nat}:∀ {Vs:List Value},(∀V∈Vs,V.cells.size=sz)->(flat Vs).length=Vs.length * sz
  |[],_=>by simp[flat]
  |V::Vs,h=>by rw[lA,length_append,cZ (λV a=>h V Ww),length_cons,succ_mul];grind
theorem vF{sz:Nat}:∀ {Vs:List Value} {i j:Nat} {V:Value},(∀V∈Vs,V.cells.size=sz)->Vs[i]? =some V->j<sz->(flat Vs)[i * sz+j]? =V.cells[j]?
  |V::Vs,0,j,V', h,X,hj=>by simp at X;subst X;have:=h V Wb;rw[lA,getElem?_append_left Wl];simp
  |V::Vs,i+1,j,V', h,X,hj=>by
    have a:=h V Wb;rw[lA,List.getElem?_append_right (by simp[succ_mul];omega)];have e:(i+1) * sz+j-V.cells.toList.length=i * sz+j:=by simp[succ_mul];omega
    rw[e];exact vF (λV a=>h V Ww) Xt hj
  |[],i,_,_,_,X,_=>XX
def Tp{sz:Nat}{k:Nat}(h:∀V∈Vs,V.cells.size=sz)(hk:(flat Vs)[k]? =some u):∃i j V,Vs[i]? =some V/\V.cells[j]? =some u/\k=i * sz+j:=by
  have b:k<Vs.length * sz:=by have:=(List.getElem?_eq_some_iff.1 hk).1;rwa [cZ h]at this
  have a:0<sz:=WZ
  have X:k/sz<Vs.length:=Nat.div_lt_of_lt_mul (by rwa [Nat.mul_comm]);have he:k=k/sz * sz+k % sz:=by have:=Nat.div_add_mod k sz;rw[Nat.mul_comm]at this;exact this.symm
  refine⟨k/sz,k % sz,Vs[k/sz],List.getElem?_eq_getElem X, ?_,he⟩;rw[<-vF h (List.getElem?_eq_getElem X) (Nat.mod_lt _ a), <-he];exact hk
theorem A9.flat{g:Gh}{w:World}{b sz o:Nat}{Vs:List Value}(a:A9 g w b sz o Vs){k:Nat}{u:Value}(hk:(flat Vs)[k]? =some u):g.im b (o+k)/\w.cell? ⟨b,o+k,none⟩=some u/\u.oneCell'= true:=by obtain⟨i,j,V,c,d,h3⟩:=Tp (sz:=sz) (λV e=>by obtain⟨i,X⟩:=List.getElem?_of_mem e;exact(a i V X).1) hk;have:=(a i V c).2 j u d;grind
def fG{g:Gh}{w:World}{b sz o:Nat}(h:∀V∈Vs,V.cells.size=sz)(c:∀(k:Nat) (u:Value),(flat Vs)[k]? =some u->g.im b (o+k)/\w.cell? ⟨b,o+k,none⟩=some u/\u.oneCell'= true):A9 g w b sz o Vs:=by
  intro i V X;refine⟨h V (List.mem_of_getElem? X),λj u hj=> ?_⟩;have a:j<sz:=WZ
  have:=c (i * sz+j) u (by rw[vF h X a];exact hj);grind
theorem HM:∀(vs:List Value) (a k:Nat) (cs:Array Value),a+k+vs.length<=cs.size->
    ((vs.zipIdx k).foldl (λcs (x:Value×Nat)=>cs.setIfInBounds (a+x.2) x.1) cs).toList=cs.toList.take (a+k)++vs++cs.toList.drop (a+k+vs.length)
  |[],a,k,cs,h=>by simp
  |v::vs,a,k,cs,h=>by
    simp only[length_cons]at h;rw[List.zipIdx_cons,List.foldl_cons,HM vs a (k+1) _ Wl];have b:a+k<cs.toList.length:=Wl
    simp only[Array.toList_setIfInBounds,length_cons];rw[show a+(k+1)=(a+k)+1 by omega,List.take_succ_eq_append_getElem Yj,List.take_set_of_le (le_refl _),List.getElem_set_self,List.drop_set_of_lt om];grind
def Eg{α:Type}(yR:Nat->Option (Nat×Nat))(s:AE):List (Nat×Operand)->List AV->(List AV->Option α)->Option α
  |[],cs,k=>k cs
  |(i,x)::C,cs,k=>match yR i with
    |none=>none
    |some (off,size)=>match ev? s x with
      |none=>none
      |some v=>kO v λvs=>bif Nat.beq vs.length size then Ck off vs cs (λcs'=> Eg yR s C cs' k) else none
def sY{α:Type}{yR:Nat->Option (Nat×Nat)}{s:AE}{g:Gh}{w:World}{a:Act}:∀(ps:List (Nat×Operand)) (cs:List AV) (cells:Array Value) (k:List AV->Option α) (r:α),Eg yR s ps cs k=some r->
    (∀p∈ps,Aa g w (ev s p.2) (a.eval p.2))->AM g w cs cells.toList->(∀u∈cells.toList,u.oneCell'= true)->
    ∃e b,Instr.fill yR cells (ps.map λp=>(p.1,a.eval p.2))=some b/\b.size=cells.size/\AM g w e b.toList/\(∀u∈b.toList,u.oneCell'= true)/\k e=some r
  |[],cs,cells,k,r,h,_,n,t=>⟨cs,cells,rfl,rfl,n,t,h⟩
  |(i,x)::C,cs,cells,k,r,h,hp,n,t=>by
    unfold Eg at h
    cases hpl:yR i with
    |none=>rw[hpl]at h;cases h
    |some os=>
      obtain⟨d,size⟩:=os
      simp only[hpl]at h
      cases hv:ev? s x with
      |none=>rw[hv]at h;cases h
      |some v=>
        simp only[hv]at h
        have q:Aa g w v (a.eval x):=by have:=hp (i,x) Wb;rwa [pW hv]at this
        obtain⟨vs,y,h3,h4⟩:=jL h q
        cases hb:Nat.beq vs.length size with
        |false=>rw[hb]at y;cases y
        |true=>
          rw[hb]at y
          obtain⟨h5,h6⟩:=tG _ _ _ _ _ y
          have a2:vs.length=size:=Nat.eq_of_beq_eq_true hb
          have o:(a.eval x).cells.size=vs.length:=by simpa using h3.length
          have a9:cells.size=cs.length:=by simpa using n.length
          have z:=HM (a.eval x).cells.toList d 0 cells Wl
          let c:=(a.eval x).cells.zipIdx.foldl (λcs (x:Value×Nat)=>cs.setIfInBounds (d+x.2) x.1) cells
          have j:c.toList=cells.toList.take d++(a.eval x).cells.toList++cells.toList.drop (d+vs.length):=by
            show ((a.eval x).cells.zipIdx.foldl _ cells).toList=_
            rw[<-Array.foldl_toList,Array.toList_zipIdx]
            simp_all
          have m:c.size=cells.size:=by
            have:=congrArg List.length j
            grind
          have a1:AM g w (cs.take d++vs++cs.drop (d+vs.length)) c.toList:=by
            rw[j]
            exact((n.take d).append h3).append (n.drop _)
          have l:∀u∈c.toList,u.oneCell'= true:=by
            intro u f
            rw[j]at f
            simp only[mem_append]at f
            rcases f with (f|f)|f
            · exact t u (List.mem_of_mem_take f)
            · exact h4 u f
            · exact t u (List.mem_of_mem_drop f)
          obtain⟨e,b,e1,e2,e3,e4,e5⟩:=sY C _ c k r h6 (λp a0=>hp p (by simp[a0])) a1 l
          refine⟨e,b, ?_,e2.trans m,e3,e4,e5⟩
          simp only[List.map_cons,Instr.fill,hpl]
          rw[if_neg (by simp only[o,a2,ne_eq,not_true_eq_false,decide_false,Bool.false_or,decide_eq_true_eq];omega)]
          exact e1
section rules
variable {P:Program} [Lay P] {A:Array Oper} {G:Bool} {K:AX->AE->St->Prop} {C:List Oper} {I:List Aj} {s:AE} {H:St}
variable {d:Tmp} {R:TypeId} {D:String} {S:Array Edge}
omit [Lay P] in
theorem Eh:∀a:List Field,(∀f∈a,(P.info? f.type).isSome=true)->a.mapM (λf=>(P.info? f.type).map λi=>(f.offset,i.size))=some (a.map λf=>(f.offset,P.cellsOf f.type))
  |[],_=>rfl
  |f::a,h=>by
    have b:=h f Wb;cases X:P.info? f.type with
    |none=>rw[X]at b;cases b
    |some i=>rw[List.mapM_cons,Eh a (λf hf=>h f (by simp[hf]))];simp[X,Program.cellsOf]
def I4(fields:List (Nat×Nat×Bool))(i:Nat):Option (Nat×Nat):=
  match fields[i]? with
  |some (o,n,_)=>some (o,n)
  |none=>none
def Tq{b:Array (Nat×Operand)}{c:TI}{e:List AV}(hT:ty? P T=some c)(hk:c.kind = .struct)(hz:c.zero = .agg e)(hv:Eg (I4 c.fields) s b.toList e (λcs=>some (.agg cs))=some v)
    (k:AD P A G K C (.pure::I) ((d,v)::s) H):AD P A G K (⟨some d, .build T b,R,D,S,none⟩::C) I s H:=
  bU rfl (eY λg w a ho=>by
    obtain⟨r,q,z,t1,t2,t,t4,t5,t6,t7,t8,t9,a4,n,a5,o⟩:=(eH hT).ex;have hd:∃fs,q = .struct fs:=by rw[hk]at t;cases q<;>first|exact⟨_,rfl⟩|cases t
    obtain⟨fs,rfl⟩:=hd;have m:Aa g w (.agg e) z:=by rw[<-hz, <-t9];exact kM g w z
    obtain⟨zv,rfl,l,j⟩:=m;obtain⟨cs', cells', e1,e2,u,y,e5⟩:=sY (g:=g) (w:=w) (a:=a) b.toList e zv _ v hv (λp hp=>ho p.2 WT) l j;have h:v = .agg cs':= (Option.some.inj e5).symm;subst h;refine⟨.agg cells', ?_,⟨cells', rfl,u,y⟩⟩;have hb:P.built T (b.map λ(i,x)=>(i,a.eval x)).toList=some cells':= by
      unfold Program.built;simp only[t1,t2,t8,Eh fs.toList (λf hf=>(o fs rfl f hf).1)];rw[<-e1];congr 1
      · funext i;rw[<-n];unfold I4 oD;grind
      · simp
    simp only[execOp,Sem.run_bind,run_build w T _ cells' hb,Result.andThen];rfl) k
def Dt{α:Type}(agg:Bool)(n:Nat):Nat->List AV->(List AV->Option α)->Option α
  |0,_,k=>k []
  |m+1,cs,k=>match cut agg n 0 cs with
    |some x=>Dt agg n m (HV n cs) λr=>k (x::r)
    |none=>none
def vG{α:Type}{agg:Bool}{n:Nat}(t:agg=false->n=1){g:Gh}{w:World}:∀(m:Nat) (cs:List AV) (J:List Value) (k:List AV->Option α) (r:α),Dt agg n m cs k=some r->AM g w cs J->(∀u∈J,u.oneCell'= true)->
    ∃xs Vs,k xs=some r/\Vs.length=m/\AM g w xs Vs/\(∀V∈Vs,V.cells.size=n)/\flat Vs=J.take (m * n)
  |0,cs,J,k,r,h,f,i=>⟨[],[],h,rfl,rfl,Wb,Y2⟩
  |m+1,cs,J,k,r,h,f,i=>by
    unfold Dt at h;cases O:cut agg n 0 cs with
    |none=>rw[O]at h;cases h
    |some x=>
      simp only[O]at h;rw[Cl]at h;obtain⟨xs,Vs,e1,o,p,y,q⟩:=vG t m _ (J.drop n) _ r h (f.drop n) (λu b=>i u (List.mem_of_mem_drop b));rcases vW O with⟨ha,_,rfl,e⟩|⟨ha,hg⟩
      · have d:=f.take n;have l:(J.take n).length=n:=by rw[d.length,List.length_take];simp at e;omega
        refine⟨_, .agg (J.take n).toArray::Vs,e1,by simp[o],⟨_,_,rfl,⟨_,rfl,by simpa using d,λu b=>i u (List.mem_of_mem_take Yj)⟩,p⟩, ?_, ?_⟩
        · intro V a;simp only[List.mem_cons]at a;rcases a with rfl|a
          · simpa [Value.cells]using l
          simp_all
        · rw[lA,q,succ_mul,Nat.add_comm,List.take_add];simp[Value.cells]
      · obtain⟨u,b,hr⟩:=f.get hg;have hn:=t ha;subst hn;cases J with
        |nil=>simp at b
        |cons v J=>
          simp at b;subst b;have j:=i v Wb;have c:v.cells = #[v]:=by cases v<;>first|rfl|cases j
          refine⟨_,v::Vs,e1,by simp[o],⟨_,_,rfl,hr,p⟩, ?_, ?_⟩
          · intro V a;simp only[List.mem_cons]at a;rcases a with rfl|a
            · rw[c];rfl
            · exact y V a
          · rw[lA,q,c];simp
def I5{len:Nat}{b:Array (Nat×Operand)}{ti c:TI}(hT:ty? P T=some ti)(hk:ti.kind = .slice)(hE:ty? P ti.elem=some c)(q:(c.agg||Nat.beq c.size 1)=true)(n:Nat.ble (len * c.size) 16777216=true)(a2:Nat.ble len 16777216=true)
    (hv:Eg (λi=>some (i * c.size,c.size)) s b.toList (List.replicate (len * c.size) .undef) (λcs=>Dt c.agg c.size len cs λxs=>some (.slice xs .full))=some v)
    (k:AD P A G K C (.pure::I) ((d,v)::s) H):AD P A G K (⟨some d, .buildSlice T len b,R,D,S,none⟩::C) I s H:=
  bU (t := .pure) rfl ⟨rfl,λτ=>by
    intro g w a next Q hI ho hn
    obtain⟨ai,dd,z0,t1,t2,t3,t4,_⟩:=(eH hT).ex
    have hd:∃e,dd = .slice e:=Wk
    obtain⟨el,rfl⟩:=hd
    have ad:el=ti.elem:=t4
    subst ad
    obtain⟨z,hz,ay,az,b0⟩:=nP hE w
    let z': Array Value:=if len * c.size=0 then #[] else z.cells
    let o:Array Value:=(Array.range (len * c.size)).map (λi=>z'[i % z'.size]!)
    have ab:∀u∈o.toList,u.oneCell'= true:=by
      intro u hu
      simp only[o,Array.toList_map,List.mem_map,Array.mem_toList_iff,Array.mem_range]at hu
      obtain⟨i,X,rfl⟩:=hu
      have f:len * c.size≠0:=om
      have y:z'= z.cells:=if_neg f
      rw[y]
      have a4:0<z.cells.size:=WZ
      have a3:i % z.cells.size<z.cells.size:=Nat.mod_lt _ a4
      simp_all
    have a5:AM g w (List.replicate (len * c.size) .undef) o.toList:=by
      have:∀(l:List Value),AM g w (List.replicate l.length .undef) l:=by
        intro l
        induction l with
        |nil=>rfl
        |cons v l E=>exact⟨v,l,rfl,trivial,E⟩
      have h:=this o.toList
      rwa [show o.toList.length=len * c.size by simp[o]]at h
    obtain⟨a9,cells', e1,e2,e3,e4,e5⟩:=sY (g:=g) (w:=w) (a:=a) b.toList _ o _ v hv (λp hp=>ho p.2 WT) a5 ab
    have a7:c.agg=false->c.size=1:=by
      intro e
      rw[e]at q
      exact Nat.eq_of_beq_eq_true Y5
    obtain⟨xs,Vs,f1,f2,f3,f4,f5⟩:=vG a7 len a9 cells'.toList _ v e5 e3 e4
    have ae:v = .slice xs .full:=(Option.some.inj f1).symm
    subst ae
    have ac:cells'.size=len * c.size:=by rw[e2];simp[o]
    have r:flat Vs=cells'.toList:=by rw[f5,List.take_of_length_le];simp[ac]
    obtain⟨n1,n2⟩:=FQ hI cells' ti.elem cells'.size (le_refl _)
    have a6:(execOp a.eval ⟨some d, .buildSlice T len b,R,D,S,none⟩).run P w = .ok (.value (.slice (some ⟨w.heap.size,0,none⟩) len len)) (dO w (.cells cells' ti.elem)):=by
      have hs:¬(len * c.size>2 ^ 24):=by
        have:=Nat.le_of_ble_eq_true n
        omega
      have j:∀zz:Array Value,zz=z'-> Instr.fill (λi=>some (i * c.size,c.size)) ((Array.range (len * c.size)).map (λx=>zz[x % zz.size]!)) (b.map λx=>(x.1,a.eval x.2)).toList=some cells':= by
        intro zz y
        subst y
        rw[<-e1]
        congr 1
        simp
      simp only[execOp,Instr.buildSlice,Sem.run_bind,run_underlying t2,Result.andThen,dA hE,if_neg hs]
      by_cases f:len * c.size=0
      · have h0:=j #[] (show #[]=z' from (if_pos f).symm)
        rw[if_pos f]
        simp only[Sem.run_bind,Sem.run_pure,Result.andThen,h0]
        rfl
      · have h0:=j z.cells (show z.cells=z' from (if_neg f).symm)
        rw[if_neg f]
        simp only[Sem.run_bind,Sem.run_pure,Result.andThen,hz,h0]
        rfl
    unfold Oper.wp
    rw[a6]
    refine hn _ _ _ n1 n2 ⟨some ⟨w.heap.size,0,none⟩,len,c.size,Vs,by rw[f2],by rw[f2];exact le_refl _, ?_,f2,AM.mono n1.le _ _ f3,(λh=>W0),λp hp=> ?_⟩
    · have:=Nat.le_of_ble_eq_true a2
      unfold maxLen
      omega
    · cases hp
      refine⟨.inl rfl,fG f4 λk u m=> ?_⟩
      rw[r]at m
      have a3:k<cells'.size:=by have:=(List.getElem?_eq_some_iff.1 m).1;simpa using this
      refine⟨.inr ⟨rfl,by simpa using a3⟩, ?_,e4 u (List.mem_of_getElem? m)⟩
      show (dO w (.cells cells' ti.elem)).cell? ⟨w.heap.size,0+k,none⟩=some u
      rw[Nat.zero_add,dV]
      simpa using m⟩ k
end rules
structure BX(g:Gh)(w:World)(k:Nat)(r': A8)(g': Gh)(w': World):Prop where
  bx:g'.bx=g.bx
  tk:(k<g.tk.length/\g'.tk=g.tk.set k r')\/(k=g.tk.length/\g'.tk=g.tk++[r'])
section
variable {g:Gh} {H:St} {w:World}
theorem BX.get{k:Nat}{r': A8}(h:BX g w k r' g' w'):g'.tk[k]? =some r':= by
  rcases h.tk with⟨a,b⟩|⟨a,b⟩
  · simp_all
  simp_all
def BX.other{k:Nat}{r': A8}(h:BX g w k r' g' w'){j:Nat}(hj:j≠k):g'.tk[j]? =g.tk[j]? :=by
  rcases h.tk with⟨a,b⟩|⟨a,b⟩
  · grind
  · grind
def J7(X:Inv g H w)(cells:Array Value)(T:TypeId){k n cap:Nat}(aa:cap * sz=cells.size)(hn:n<=cap){old:Option A8}(a7:g.tk[k]? =old)(hk:k<=g.tk.length)(a8:∀r,old=some r->r.n<n/\r.sz=sz)
    (hT:(k<H.T.length/\T'= H.T.set k (.len n))\/(k=H.T.length/\T'= H.T++[.len n])):
    ∃g', BX g w k ⟨some ⟨w.heap.size,0,none⟩,n,cap,sz,n⟩ g' (dO w (.cells cells T))/\Ar g w g' (dO w (.cells cells T))/\Inv g' ⟨H.B,T'⟩ (dO w (.cells cells T))/\
      (∀o,o<n * sz->g'.im w.heap.size o):=by
  let r': A8:=⟨some ⟨w.heap.size,0,none⟩,n,cap,sz,n⟩
  let a0:Nat->Nat->Prop:=λb o=>g.im b o\/(b=w.heap.size/\o<n * sz)
  let t:List A8:=if k<g.tk.length then g.tk.set k r' else g.tk++[r']
  have a:BX g w k r' ⟨g.bx,t,a0⟩ (dO w (.cells cells T)):=by refine⟨rfl, ?_⟩;grind
  have d:∀b o,r'.a1 b o->b=w.heap.size/\n * sz<=o/\o<cells.size:=by rintro b o ⟨p,hp,rfl,l,h2⟩;grind
  have u:Le g w ⟨g.bx,t,a0⟩ (dO w (.cells cells T)):=by refine⟨λb o h=>⟨.inl h,(cI (cQ w _ (X.imlt b o h))).1⟩,λ_ _ h=>h,λj r hj=> ?_⟩;grind
  refine⟨⟨g.bx,t,a0⟩,a, ?_, ?_,λo q => .inr ⟨rfl,q⟩⟩
  · refine⟨u,by rw[kB];omega,rfl,rfl,rfl,λb hb _ _=>cQ w _ hb,λb f hb _ _=>cI (cQ w _ hb),λb f h=> ?_,λb hb => .inl hb,λj r hj b f q=> ?_⟩
    · grind
    · by_cases e:j=k
      · subst e
        have:r=r':= Option.some.inj (hj.symm.trans a.get);subst this;exact .inl (by rw[(d b f q).1];exact le_refl _)
      · exact .inr ⟨r,(a.other e).symm.trans hj,q⟩
  · refine⟨X.lenB, ?_,λi b a5 l h2=>(X.ob i b a5 l h2).mono u (cQ w _ (X.be (List.mem_of_getElem? l))),X.nodup,λb hb f h=> ?_,λj m r hj y=> ?_,λj r hj b f q=> ?_,λj j' r r2 a2 hj v b f q z=> ?_,λb f h=> ?_,X.gl.le u⟩
    · show t.length=T'.length
      have x:=X.lenT;rcases hT with⟨l,rfl⟩|⟨l,rfl⟩
      · rw[show t=g.tk.set k r' from if_pos om];simp[x]
      · rw[show t=g.tk++[r'] from if_neg om];simp[x]
    · rcases h with h|⟨rfl,_⟩
      · exact X.noim b hb f h
      · have:=X.be hb;omega
    · by_cases e:j=k
      · subst e
        have:r=r':= Option.some.inj (hj.symm.trans a.get);subst this;rcases hT with⟨l,rfl⟩|⟨l,rfl⟩
        · simp only[List.getElem?_set_self l,Option.some.injEq]at y;subst y;exact⟨rfl,rfl⟩
        · rw[l]at y;simp at y;subst y;exact⟨rfl,rfl⟩
      · have c:g.tk[j]? =some r:=(a.other e).symm.trans hj
        have a9:=(List.getElem?_eq_some_iff.1 c).1;have x:=X.lenT;refine(X.tok j m r c ?_).mono u λb o q=>(cI (cQ w _ (X.bd c q))).1
        rcases hT with⟨l,rfl⟩|⟨l,rfl⟩
        · simpa [Ne.symm e]using y
        · have a3:j<H.T.length:=om
          simpa [getElem?_append_left a3]using y
    · by_cases e:j=k
      · subst e
        have:r=r':= Option.some.inj (hj.symm.trans a.get);subst this;obtain⟨rfl,l,h2⟩:=d b f q;refine⟨λh=> ?_,λhb=> ?_, ?_,j5 w cells T f⟩
        · rcases h with h|⟨_,h⟩
          · have:=X.imlt _ _ h;omega
          · omega
        · have:=X.be hb;omega
        · rw[dV];exact⟨cells[f],Array.getElem?_eq_getElem h2⟩
      · have c:g.tk[j]? =some r:=(a.other e).symm.trans hj
        obtain⟨l,h2,h3,h4⟩:=X.tkz j r c b f q;have hb:=X.bd c q;have O:=cI (o:=f) (cQ w (.cells cells T) hb);refine⟨λh=> ?_,h2,by rw[O.1];exact h3,O.2.trans h4⟩;rcases h with h|⟨rfl,_⟩
        · exact l h
        · omega
    · by_cases e:j=k
      · subst e
        have:r=r':= Option.some.inj (hj.symm.trans a.get);subst this;have c:g.tk[j']? =some r2:=(a.other (Ne.symm a2)).symm.trans v;have hb:=X.bd c z;have:=(d b f q).1;omega
      · have c:g.tk[j]? =some r:=(a.other e).symm.trans hj
        by_cases e': j'= k
        · subst e'
          have:r2=r':= Option.some.inj (v.symm.trans a.get);subst this;have hb:=X.bd c q;have:=(d b f z).1;omega
        · exact X.tkd j j' r r2 a2 c ((a.other e').symm.trans v) b f q z
    · rw[kB]
      rcases h with h|⟨rfl,_⟩
      · have:=X.imlt b f h;omega
      · omega
def O8(X:Inv g H w){k:Nat}(hr:g.tk[k]? =some r){p:Addr}(hp:r.base=some p)(al:p.spot=none){m:Nat}(hm:0<m)(ar:0<r.sz)(aa:r.lo=r.n)(a5:r.n+m<=r.cap){vs:List Value}(am:vs.length=m * r.sz)
    (c:B4 w w' p.block (p.off+r.n * r.sz) vs) (ai:k<H.T.length):
    ∃g', BX g w k ⟨r.base,r.n+m,r.cap,r.sz,r.n+m⟩ g' w'/\ Ar g w g' w'/\ Inv g' ⟨H.B,H.T.set k (.len (r.n+m))⟩ w'/\
      (∀b o,g.im b o->g'.im b o)/\(∀j,j<m * r.sz->g'.im p.block (p.off+r.n * r.sz+j)):=by
  obtain⟨z,l,ps⟩:=p;cases (show ps=none from al);simp only at c
  let r': A8:=⟨r.base,r.n+m,r.cap,r.sz,r.n+m⟩
  let a7:Nat->Nat->Prop:=λb o=>g.im b o\/(b=z/\l+r.n * r.sz<=o/\o<l+r.n * r.sz+m * r.sz)
  have aj:=(List.getElem?_eq_some_iff.1 hr).1;have a:BX g w k r' ⟨g.bx,g.tk.set k r', a7⟩ w':= ⟨rfl, .inl ⟨aj,rfl⟩⟩;have ab:(r.n+m) * r.sz=r.n * r.sz+m * r.sz:=add_mul _ _ _;have ap:r.n * r.sz+m * r.sz<=r.cap * r.sz:=by rw[<-ab];exact Nat.mul_le_mul_right _ a5
  have u:∀o,l+r.n * r.sz<=o->o<l+r.n * r.sz+m * r.sz->r.a1 z o:=λo f t=>⟨⟨z,l,none⟩,hp,rfl,by rw[aa];exact f,by show o<l+r.cap * r.sz;omega⟩
  have a2:∀b o,r'.a1 b o->r.a1 b o/\b=z/\l+r.n * r.sz+m * r.sz<=o:=by rintro b o ⟨q,hq,rfl,f,t⟩;have:q=⟨z,l,none⟩:=Option.some.inj (hq.symm.trans hp);subst this;have aq:l+(r.n+m) * r.sz<=o:=f;exact⟨⟨⟨z,l,none⟩,hp,rfl,by rw[aa];show l+r.n * r.sz<=o;omega,t⟩,rfl,om⟩
  have d:∀b o,¬(b=z/\l+r.n * r.sz<=o/\o<l+r.n * r.sz+m * r.sz)->w'.cell? ⟨b,o,none⟩=w.cell? ⟨b,o,none⟩:=by
    intro b o h;by_cases e:b=z
    · subst e
      exact c.there o (by rw[am];omega)
    · exact(cI (c.block b e)).1
  have x:∀b o,w'.frozen? ⟨b,o,none⟩=w.frozen? ⟨b,o,none⟩:=by
    intro b o;by_cases e:b=z
    · subst e;exact c.frozen o
    · exact(cI (c.block b e)).2
  have a9:∀b o,g.im b o->w'.cell? ⟨b,o,none⟩=w.cell? ⟨b,o,none⟩:=λb o h=>d b o λ⟨e,f,t⟩=>by subst e;exact(X.tkz k r hr b o (u o f t)).1 h
  have a0:Le g w ⟨g.bx,g.tk.set k r', a7⟩ w':= by
    refine⟨λb o h=>⟨.inl h,a9 b o h⟩,λ_ _ h=>h,λj r0 hj=> ?_⟩;by_cases e:j=k
    · subst e
      rw[hr]at hj;cases hj;exact⟨r', a.get, .inr ⟨by show r.n<r.n+m;omega,rfl⟩⟩
    · exact⟨r0,(a.other e).trans hj, .inl rfl⟩
  refine⟨⟨g.bx,g.tk.set k r', a7⟩,a, ?_, ?_,λ_ _ h => .inl h,λj hj => .inr ⟨rfl,by show l+r.n * r.sz<=l+r.n * r.sz+j;omega,by show l+r.n * r.sz+j<l+r.n * r.sz+m * r.sz;omega⟩⟩
  · refine⟨a0,by rw[c.size];exact le_refl _,c.os,c.tape,c.output,λb hb hn hz=> ?_,λb o hb hn hz=> ?_,λb o h=> ?_,λb hb => .inl hb,λj r0 hj b o y=> ?_⟩
    · by_cases e:b=z
      · subst e
        by_cases a6:m * r.sz=0
        · exfalso
          rcases Nat.mul_eq_zero.1 a6 with h|h
          · omega
          · omega
        · exact absurd (u (l+r.n * r.sz) (le_refl _) om) (hz k r hr _)
      · exact c.block b e
    · have ak:=hz k r hr
      refine⟨d b o λ⟨e,f,t⟩=>ak (by subst e;exact u o f t),x b o⟩
    · rcases h with h|⟨rfl,f,t⟩
      · exact .inl h
      · exact .inr (.inr ⟨k,r,hr,u o f t⟩)
    · by_cases e:j=k
      · subst e
        have:r0=r':= Option.some.inj (hj.symm.trans a.get);subst this;exact .inr ⟨r,hr,(a2 b o y).1⟩
      · exact .inr ⟨r0,(a.other e).symm.trans hj,y⟩
  · have ah:∀b,b∈g.bx->w'.heap[b]? =w.heap[b]? :=by
      intro b hb;by_cases e:b=z
      · subst e
        by_cases a6:m * r.sz=0
        · exfalso
          rcases Nat.mul_eq_zero.1 a6 with h|h
          · omega
          · omega
        · exact absurd hb (X.tkz k r hr b _ (u (l+r.n * r.sz) (le_refl _) om)).2.1
      · exact c.block b e
    refine⟨X.lenB,by simpa using X.lenT,λi b an f t=>(X.ob i b an f t).mono a0 (ah b (List.mem_of_getElem? f)),X.nodup,λb hb o h=> ?_,λj n r0 hj hn=> ?_,λj r0 hj b o y=> ?_,λj j' r0 r2 a1 hj a3 b o y a4=> ?_,λb o h=> ?_,X.gl.le a0⟩
    · rcases h with h|⟨rfl,f,t⟩
      · exact X.noim b hb o h
      · exact(X.tkz k r hr b o (u o f t)).2.1 hb
    · by_cases e:j=k
      · subst e
        have:r0=r':= Option.some.inj (hj.symm.trans a.get);subst this;simp only[List.getElem?_set_self ai,Option.some.injEq]at hn;subst hn;exact⟨rfl,rfl⟩
      · have v:g.tk[j]? =some r0:=(a.other e).symm.trans hj
        refine(X.tok j n r0 v (by simpa [Ne.symm e]using hn)).mono a0 λb o y=>d b o λ⟨e', f,t⟩=> ?_
        subst e';exact X.tkd j k r0 r e v hr b o y (u o f t)
    · by_cases e:j=k
      · subst e
        have:r0=r':= Option.some.inj (hj.symm.trans a.get);subst this;obtain⟨hz,rfl,h3⟩:=a2 b o y;obtain⟨h4,h5,h6,h7⟩:=X.tkz j r hr b o hz;refine⟨λh=> ?_,h5, ?_,(x b o).trans h7⟩
        · rcases h with h|⟨_,f,t⟩
          · exact h4 h
          · omega
        · rw[d b o (λ⟨_,f,t⟩=>om)];exact h6
      · have v:g.tk[j]? =some r0:=(a.other e).symm.trans hj
        obtain⟨h4,h5,h6,h7⟩:=X.tkz j r0 v b o y;have ac:¬(b=z/\l+r.n * r.sz<=o/\o<l+r.n * r.sz+m * r.sz):=λ⟨e', f,t⟩=>by subst e';exact X.tkd j k r0 r e v hr b o y (u o f t)
        refine⟨λh=> ?_,h5,by rw[d b o ac];exact h6,(x b o).trans h7⟩;rcases h with h|h
        · exact h4 h
        · exact ac h
    · by_cases e:j=k
      · subst e
        have:r0=r':= Option.some.inj (hj.symm.trans a.get);subst this;exact X.tkd j j' r r2 a1 hr ((a.other (Ne.symm a1)).symm.trans a3) b o (a2 b o y).1 a4
      · have v:g.tk[j]? =some r0:=(a.other e).symm.trans hj
        by_cases e': j'= k
        · subst e'
          have:r2=r':= Option.some.inj (a3.symm.trans a.get);subst this;exact X.tkd j j' r0 r a1 v hr b o y (a2 b o a4).1
        · exact X.tkd j j' r0 r2 a1 v ((a.other e').symm.trans a3) b o y a4
    · rw[c.size]
      rcases h with h|⟨rfl,f,t⟩
      · exact X.imlt b o h
      · exact X.bd hr (u o f t)
end
def eK(agg:Bool)(n:Nat):List AV->Bool
  |[]=>true
  |y::ys=>fits agg n y&&eK agg n ys
def pB{agg:Bool}{n:Nat}{g:Gh}{w:World}:∀ {ys:List AV} {Vs:List Value},eK agg n ys=true->AM g w ys Vs->∀V∈Vs,V.cells.size=n/\∀u∈V.cells.toList,u.oneCell'= true
  |[],_,_,h,V,a=>by rw[show _=[] from h]at a;cases a
  |y::ys,_,hf,⟨v,C,e,b,c⟩,V,a=>by
    simp only[eK,Bool.and_eq_true]at hf;subst e;rcases List.mem_cons.1 a with rfl|a
    · obtain⟨d,_,_,f⟩:=nJ hf.1 b;simp_all
    · exact pB hf.2 c V a
theorem iJ{α:Type}{agg:Bool}{n:Nat}{f:α->AV}(h:∀x,fits agg n (f x)=true):∀l:List α,eK agg n (l.map f)=true
  |[]=>rfl
  |x::l=>by simp[eK,h x,iJ h l]
def jX:Nat->Tok->List Tok->(List Tok->Option (List Tok))->Option (List Tok)
  |0,v,_::T,k=>k (v::T)
  |n+1,v,x::T,k=>jX n v T λr=>k (x::r)
  |_,_,[],_=>none
def d7:∀(n:Nat) (v:Tok) (T:List Tok) (k:List Tok->Option (List Tok)) (r:List Tok),jX n v T k=some r->n<T.length/\k (T.set n v)=some r
  |0,v,x::T,k,r,h=>⟨Wb,h⟩
  |n+1,v,x::T,k,r,h=>by have:=d7 n v T _ r h;simp_all
  |0,v,[],k,r,h=>by cases h
  |n+1,v,[],k,r,h=>W0
section rules
variable {P:Program} [Lay P] {A:Array Oper} {G:Bool} {K:AX->AE->St->Prop} {C:List Oper} {I:List Aj} {s:AE} {H:St}
variable {d:Tmp} {R:TypeId} {D:String} {S:Array Edge}
structure CY(g:Gh)(w:World)(sz:Nat)(ys:List AV)(u:Value)(Ys:List Value):Prop where
  a6:AM g w ys Ys
  size:∀V∈Ys,V.cells.size=sz
  one:∀v∈flat Ys,v.oneCell'= true
  form:(∃(a:Addr) (c:Nat),u = .slice (some a) Ys.length c/\∀(j:Nat) (v:Value),(flat Ys)[j]? =some v->w.cell? (a.add j)=some v/\g.im a.block (a.off+j))\/(u = .slice none 0 0/\Ys=[])
def I6{b:TI}{ys:List AV}{t:Tk}{g:Gh}{w:World}(h:Aa g w (.slice ys t) u)(hf:eK b.agg b.size ys=true):∃Ys,CY g w b.size ys u Ys:=by
  obtain⟨a,cap,sz,Vs,rfl,l,m,h3,h4,f,i⟩:=h;have hs:=pB hf h4;refine⟨Vs,h4,λV c=>(hs V c).1,λv d=> ?_, ?_⟩
  · obtain⟨V,c,d⟩:=List.mem_flatMap.1 d;grind
  · cases a with
    |none=>obtain⟨rfl,rfl⟩:=f rfl;exact .inr ⟨rfl,rfl⟩
    |some p=>obtain⟨q,r,ps⟩:=p;obtain⟨e,k⟩:=i _ rfl;refine .inl ⟨_,cap,rfl,λj v hj=> ?_⟩;cases (show ps=none from e.resolve_right (λe=>by subst e;simp[flat]at hj));obtain⟨n,o,_⟩:=k.flat hj;rw[eI];simp_all
def O9{g g': Gh}{w:World}{sz n cap:Nat}{Us Ys:List Value}{cells:Array Value}(d:Le g w g' (dO w (.cells cells T)))(m:AM g w xs Us)(r:AM g w ys Ys)(f:∀V∈Us,V.cells.size=sz)(i:∀V∈Ys,V.cells.size=sz)
    (y:∀v∈flat Us++flat Ys,v.oneCell'= true) (l:∀(j:Nat) (v:Value),(flat Us++flat Ys)[j]? =some v->cells[j]? =some v) (hn:Us.length+Ys.length=n) (c:n<=cap) (e:cap<=maxLen)
    {k:Nat} (hk:g'.tk[k]? =some ⟨some ⟨w.heap.size,0,none⟩,n,cap,sz,n⟩) (t:∀o,o<n * sz->g'.im w.heap.size o):
    Aa g' (dO w (.cells cells T)) (.slice (xs++ys) (.own k sz)) (.slice (some ⟨w.heap.size,0,none⟩) n cap):=by
  have b:∀V∈Us++Ys,V.cells.size=sz:=λV q=>(mem_append.1 q).elim (f V) (i V)
  have a:(Us++Ys).length=n:=by rw[length_append,hn]
  refine⟨some ⟨w.heap.size,0,none⟩,cap,sz,Us++Ys,by rw[a],by rw[a];exact c,e,⟨.inl rfl,_,hk,rfl,by rw[a];exact le_refl _,λ_=>⟨rfl,rfl, .inr λp hp=>by cases hp;rfl⟩⟩,(AM.mono d _ _ m).append (AM.mono d _ _ r),(λh=>W0),λp hp=> ?_⟩;cases hp;refine⟨.inl rfl,fG b λj u hj=> ?_⟩;rw[gU]at hj;have x:j<n * sz:=by have:=(List.getElem?_eq_some_iff.1 hj).1;rw[length_append,cZ f,cZ i, <-add_mul,hn]at this;exact this
  rw[Nat.zero_add,dV];grind
def vH{R:TypeId}{k z n:Nat}{l te:TI}(hT:ty? P T=some l)(hk:l.kind = .slice)(hE:ty? P l.elem=some te)(o:te.size=z)(cw:0<z)
    {g:Gh} {w:World} (hI:Inv g H w) {ux uy:Value} (h1:Aa g w (.slice xs (.own k z)) ux) {Ys:List Value} (a:CY g w te.size ys uy Ys) (ak:H.T[k]? =some (.len n)) (hn:xs.length=n)
    (hb:(n+ys.length) * te.bytes<=140737488355328) (hb': n+ys.length<=4611686018427387904):
    ∃v w' g', (Builtin.append_ #[T,T] R #[ux,uy]).run P w = .ok v w'/\ Ar g w g' w'/\ Inv g' ⟨H.B,H.T.set k (.len (n+ys.length))⟩ w'/\ Aa g' w' (.slice (xs++ys) (.own k z)) v:=by
  have ad:Ys.length=ys.length:=a.a6.length;have kl:k<H.T.length:=(List.getElem?_eq_some_iff.1 ak).1;obtain⟨a0,cap,sz,Us,rfl,c1,c2,⟨c3,r,hr,a1,c4,c5⟩,hl,c6,c7⟩:=h1;have a2:Us.length=n:=by rw[<-hn];exact hl.length
  obtain⟨x,ba⟩:=hI.cz hr ak;obtain⟨c8,c9,bk⟩:=c5 (by rw[a2,x]);obtain⟨cj,dd,z0,t1,t2,t3,t4,_⟩:=(eH hT).ex;have hd:∃e,dd = .slice e:=Wk
  obtain⟨el,rfl⟩:=hd;have bs:el=l.elem:=t4;subst bs;obtain⟨ie,de,ze,u1,u2,u3,u4,u5,u6,u7,u8,u9,cd,cz,d0,d1⟩:=(eH hE).ex;have ac:∀V∈Us,V.cells.size=z:=by
    intro V hV;rcases c3 with rfl|c3
    · cases a0 with
      |none=>rw[(c6 rfl).1]at hV;cases hV
      |some p=>obtain⟨i,X⟩:=List.getElem?_of_mem hV;exact((c7 p rfl).2 i V X).1
    · have:=List.eq_nil_of_length_eq_zero c3
      subst this;cases hV
  have ae:∀V∈Ys,V.cells.size=z:=λV hV=>by rw[<-o];exact a.size V hV
  by_cases hm:Ys.length=0
  · -- nothing is appended
    have bq:=List.eq_nil_of_length_eq_zero hm;subst bq;have bb:ys=[]:=List.eq_nil_of_length_eq_zero (by rw[<-ad];rfl);subst bb;refine⟨.slice a0 Us.length cap,w,g, ?_,eV g w, ?_, ?_⟩
    · rcases a.form with⟨b,c,rfl,_⟩|⟨rfl,_⟩
      · have am:(Builtin.firstCells ie.size 0 (.slice (some b) 0 c)).run P w = .ok #[] w:=by simp[Builtin.firstCells,loadCells,loadCellsFrom]
        cases a0<;>simp[Builtin.append_,run_underlying t2,sizeOf,typeInfo,u1,Builtin.lenOf,c1,am,storeCells]
      · cases a0<;>simp[Builtin.append_,run_underlying t2,sizeOf,typeInfo,u1,Builtin.lenOf,c1,Builtin.firstCells,storeCells]
    · have bp:H.T.set k (.len (n+([]:List AV).length))=H.T:=by
        apply List.ext_getElem?;intro i;by_cases e:i=k
        · subst e;rw[List.getElem?_set_self kl,ak];rfl
        · rw[List.getElem?_set_ne (Ne.symm e)]
      rw[bp];exact hI
    · rw[List.append_nil]
      exact⟨a0,cap,sz,Us,rfl,c1,c2,⟨c3,r,hr,a1,c4,c5⟩,hl,c6,c7⟩
  · have f:0<Ys.length:=om
    rcases a.form with⟨sb,sc,rfl,d⟩|⟨_,e⟩
    case inr=>rw[e]at f;simp at f
    have a3:(flat Ys).length=Ys.length * ie.size:=by rw[u6,o];exact cZ ae
    have a9:(flat Us).length=Us.length * ie.size:=by rw[u6,o];exact cZ ac
    have a4:Us.length+Ys.length<=maxLen:=by unfold maxLen;omega
    have a8:∀old,old<Us.length+Ys.length->Builtin.nextslicecap (Us.length+Ys.length) old * ie.bytes<=281474976710656:=λold h=>growslice_fits h (by rw[a2,ad,u7];exact hb)
    have c0:ze.cells.size=z:=cd.trans o;have a7:∀(old:Nat) (b4:∀v∈flat Us,v.oneCell'= true),old<Us.length+Ys.length->∃g',
        Ar g w g' (w.drew.alloc (.cells ((flat Us).toArray++(flat Ys).toArray++Builtin.zeroCells ze.cells (grownCap w (Us.length+Ys.length) old l.elem-(Us.length+Ys.length))) l.elem))/\
        Inv g' ⟨H.B,H.T.set k (.len (n+ys.length))⟩ (w.drew.alloc (.cells ((flat Us).toArray++(flat Ys).toArray++Builtin.zeroCells ze.cells (grownCap w (Us.length+Ys.length) old l.elem-(Us.length+Ys.length))) l.elem))/\
        Aa g' (w.drew.alloc (.cells ((flat Us).toArray++(flat Ys).toArray++Builtin.zeroCells ze.cells (grownCap w (Us.length+Ys.length) old l.elem-(Us.length+Ys.length))) l.elem)) (.slice (xs++ys) (.own k z))
          (.slice (some ⟨w.heap.size,0,none⟩) (Us.length+Ys.length) (grownCap w (Us.length+Ys.length) old l.elem)):=by
      intro old ap b4;have b0:=grownCap_ge w (Us.length+Ys.length) old l.elem;have b2:=grownCap_le_maxLen w (Us.length+Ys.length) old l.elem a4;have ar:grownCap w (Us.length+Ys.length) old l.elem * z=((flat Us).toArray++(flat Ys).toArray++Builtin.zeroCells ze.cells (grownCap w (Us.length+Ys.length) old l.elem-(Us.length+Ys.length))).size:=by
        simp only[Array.size_append,List.size_toArray,size_zeroCells,c0,cZ ac,cZ ae, <-add_mul]
        congr 1
        omega
      obtain⟨g', n1,n2,n3,n4⟩:=J7 (hI.drew (w.drawn+1)) ((flat Us).toArray++(flat Ys).toArray++Builtin.zeroCells ze.cells (grownCap w (Us.length+Ys.length) old l.elem-(Us.length+Ys.length))) l.elem (k:=k) (n:=Us.length+Ys.length) (sz:=z)
        ar b0 (old:=some r) hr (Nat.le_of_lt (List.getElem?_eq_some_iff.1 hr).1) (λr' h=>by cases h;exact⟨om,a1⟩) (T':= H.T.set k (.len (n+ys.length))) (.inl ⟨kl,by rw[a2,ad]⟩)
      refine⟨g', (Ar.drew g w _).trans n2,n3, ?_⟩;refine O9 (g:=g) (w:=w.drew) (n:=Us.length+Ys.length) n2.le (AM.mono (Ar.drew g w (w.drawn+1)).le _ _ hl) (AM.mono (Ar.drew g w (w.drawn+1)).le _ _ a.a6) ac ae (λv hv=>(mem_append.1 hv).elim (ap v) (a.one v)) (λj v hj=> ?_) rfl b0 b2 n1.get n4;have bv:=(List.getElem?_eq_some_iff.1 hj).1;rw[<-getElem?_toList,Array.toList_append,Array.toList_append,getElem?_append_left (by simpa using bv)];simpa using hj
    cases a0 with
    |none=>
      obtain⟨rfl,rfl⟩:=c6 rfl;have bz:xs=[]:=List.eq_nil_of_length_eq_zero (by rw[hn, <-a2];rfl);subst bz;obtain⟨g', n1,n2,n3⟩:=a7 0 Y2 Yg;have y:=run_append_nil (P:=P) w T R l.elem ie ze t2 u1 u8 sb Ys.length sc (flat Ys) a3 (λj v hj=>(d j v hj).1) f (by have:=a4;unfold maxLen at this;simp at this;omega) (by have:=a8 0 Yg;rw[show ([]:List Value).length+Ys.length=Ys.length by simp,nextslicecap_zero f]at this;exact this);refine⟨_,_,g', y, ?_, ?_, ?_⟩
      · simpa [flat]using n1
      · simpa [flat]using n2
      · simpa [flat]using n3
    |some p=>
      obtain⟨e,b3⟩:=c7 p rfl;by_cases aq:p.spot=none
      case neg=>
        have hU:=e.resolve_left aq;subst hU;have br:cap=0:=bk.resolve_right λh=>aq (h p rfl)
        subst br;obtain⟨g', n1,n2,n3⟩:=a7 0 Y2 Yg;have y:=run_append_grow (P:=P) w T R l.elem ie ze t2 u1 u8 p ([]:List Value).length 0 (flat []) a9 (λj v hj=>by simp[flat]at hj) sb Ys.length sc (flat Ys) a3 (λj v hj=>(d j v hj).1) Yg (by have:=a4;unfold maxLen at this;omega) (a8 0 Yg);exact⟨_,_,g', y,n1,n2,n3⟩
      obtain⟨pb,t,ps⟩:=p;cases (show ps=none from aq);have ci:sz=z\/Us=[]:=c3.imp id List.eq_nil_of_length_eq_zero;have al:∀(j:Nat) (v:Value),(flat Us)[j]? =some v->w.cell? ((⟨pb,t,none⟩:Addr).add j)=some v/\v.oneCell'= true/\g.im pb (t+j):=λj v hj=>by obtain⟨m1,m2,m3⟩:=b3.flat hj;rw[eI];exact⟨m2,m3,m1⟩
      have b5:∀v∈flat Us,v.oneCell'= true:=λv hv=>by obtain⟨j,hj⟩:=List.getElem?_of_mem hv;exact(al j v hj).2.1
      by_cases m:Us.length+Ys.length<=cap
      · -- there is room
        have am:(Builtin.firstCells ie.size Ys.length (.slice (some sb) Ys.length sc)).run P w = .ok (flat Ys).toArray w:=run_firstCells_some (P:=P) w ie.size Ys.length sb Ys.length sc (flat Ys) a3 (λj v hj=>(d j v hj).1);have bc:∀j,j<(flat Ys).length->r.a1 pb (t+r.n * r.sz+j):=λj hj=>⟨⟨pb,t,none⟩,c8,rfl,by rw[ba, <-x];show t+r.n * r.sz<=t+r.n * r.sz+j;omega,by show t+r.n * r.sz+j<t+r.cap * r.sz;rw[a3,u6,o]at hj;have h3:(Us.length+Ys.length) * z<=cap * z:=Nat.mul_le_mul_right _ m;rw[add_mul]at h3;rw[x,a1,c9, <-a2];omega⟩
        obtain⟨w', bw,hs⟩:=tI (P:=P) pb (flat Ys) 0 (t+r.n * r.sz) w (λj hj=>(hI.tkz k r hr pb _ Yx).2.2.1) (λj hj=>(hI.tkz k r hr pb _ Yx).2.2.2) a.one;obtain⟨g', n1,n2,n3,n4,n5⟩:=O8 hI hr c8 rfl f om (by rw[ba,x]) (by rw[x,c9, <-a2];exact m) (by rw[a3,u6,o,a1]) hs kl;refine⟨.slice (some ⟨pb,t,none⟩) (Us.length+Ys.length) cap,w', g', ?_,n2,by rw[<-ad, <-x];exact n3, ?_⟩
        · have ay:(⟨pb,t,none⟩:Addr).add (Us.length * ie.size)=⟨pb,t+r.n * r.sz,none⟩:=by rw[eI,u6,o,a1,x,a2]
          simp[Builtin.append_,run_underlying t2,sizeOf,typeInfo,u1,Builtin.lenOf,m,am,ay,bw]
        · have az:∀V∈Us++Ys,V.cells.size=z:=λV hV=>(mem_append.1 hV).elim (ac V) (ae V)
          have aa:(Us++Ys).length=Us.length+Ys.length:=length_append;refine⟨some ⟨pb,t,none⟩,cap,z,Us++Ys,by rw[aa],by rw[aa];exact m,c2,⟨.inl rfl,_,n1.get,a1, ?_,λ_=>⟨c8,c9, .inr λp hp=>by cases hp;rfl⟩⟩,(AM.mono n2.le _ _ hl).append (AM.mono n2.le _ _ a.a6),(λh=>W0),λq hq=> ?_⟩
          · rw[aa]
            show Us.length+Ys.length<=r.n+Ys.length;omega
          · cases hq
            refine⟨.inl rfl,fG az λj u hj=> ?_⟩;rw[gU]at hj;show g'.im pb (t+j)/\w'.cell? ⟨pb,t+j,none⟩=some u/\u.oneCell'= true;by_cases bt:j<(flat Us).length
            · rw[getElem?_append_left bt]at hj
              obtain⟨m1,m2,m3⟩:=al j u hj;rw[eI]at m1;exact⟨n4 _ _ m3,(n2.le.im _ _ m3).2.trans m1,m2⟩
            · rw[List.getElem?_append_right om]at hj
              have an:(flat Us).length=r.n * r.sz:=by rw[a9,u6,o,a1,x,a2]
              have ao:=hs.here (j-(flat Us).length) u hj;have bu:=(List.getElem?_eq_some_iff.1 hj).1;have aj:t+r.n * r.sz+0+(j-(flat Us).length)=t+j:=by rw[<-an];omega
              have b1:=n5 (j-(flat Us).length) (by rw[a1, <-o, <-u6, <-a3];exact bu);simp only[add_zero]at aj ao;rw[aj]at ao b1;exact⟨b1,ao,a.one u (List.mem_of_getElem? hj)⟩
      · -- it must grow
        obtain⟨g', n1,n2,n3⟩:=a7 cap b5 om;have y:=run_append_grow (P:=P) w T R l.elem ie ze t2 u1 u8 ⟨pb,t,none⟩ Us.length cap (flat Us) a9 (λj v hj=>(al j v hj).1) sb Ys.length sc (flat Ys) a3 (λj v hj=>(d j v hj).1) om (by have:=a4;unfold maxLen at this;omega) (a8 cap om);exact⟨_,_,g', y,n1,n2,n3⟩
omit [Lay P] in
theorem j8{a:Act}{w w': World}{v:Value}(h:(Builtin.append_ #[T,T] R #[a.eval x,a.eval y]).run P w = .ok v w'):
    (execOp a.eval ⟨some d, .call ⟨.builtin .append, #[x,y], #[T,T]⟩,R,D,S,none⟩).run P w = .ok (.value v) w':= by
  have b:Array.map a.eval #[x,y] = #[a.eval x,a.eval y]:=Wb
  simp only[execOp,resolve,Sem.run_bind,Sem.run_pure,Result.andThen,invoke,builtin,b,h]
theorem bW{t:Tk}{k z n:Nat}{l c:TI}(hT:ty? P T=some l)(hk:l.kind = .slice)(hE:ty? P l.elem=some c)(hz:Nat.beq c.size z=true)(j:Nat.blt 0 z=true)
    (hx:ev? s x=some (.slice xs (.own k z))) (hy:ev? s y=some (.slice ys t)) (h:H.T[k]? =some (.len n)) (hn:xs.length=n) (hf:eK c.agg c.size ys=true)
    (hb:(n+ys.length) * c.bytes<=140737488355328) (hb': n+ys.length<=4611686018427387904) (e:jX k (.len (n+ys.length)) H.T some=some T')
    (kk:AD P A G K C (.tk::I) ((d, .slice (xs++ys) (.own k z))::s) ⟨H.B,T'⟩):AD P A G K (⟨some d, .call ⟨.builtin .append, #[x,y], #[T,T]⟩,R,D,S,none⟩::C) I s H:=
  bU (t := .tk) (Y:=⟨H.B,T'⟩) rfl ⟨rfl,λB=>by
    intro g w a next Q hI m i
    have r:=op1 hx Wm m
    have u:=op1 hy Wm m
    obtain⟨Ys,b⟩:=I6 u hf
    obtain⟨kl,f⟩:=d7 _ _ _ _ _ e
    obtain⟨v,w', g', e1,o,p,q⟩:=vH (H:=⟨B,H.T⟩) (R:=R) hT hk hE (Nat.eq_of_beq_eq_true hz) (Nat.le_of_ble_eq_true j) hI r b h hn hb hb'
    unfold Oper.wp
    rw[j8 e1]
    refine i v w' g' o ?_ q
    rw[show (⟨H.B,T'⟩:St).T=T' from rfl, <-Option.some.inj f]
    exact p⟩ kk
def Tk.fresh:Tk->Bool
  | .full | .nil=>true
  |_=>false
omit [Lay P] in
def rI{t:Tk}{agg:Bool}{z:Nat}(ht:t.fresh=true)(hf:eK agg z xs=true){g:Gh}{w:World}(c:Inv g H w)(h:Aa g w (.slice xs t) u):
    ∃g', Ar g w g' w/\Inv g' ⟨H.B,H.T++[.len xs.length]⟩ w/\Aa g' w (.slice xs (.own H.T.length z)) u:=by
  obtain⟨y,cap,sz,Us,rfl,c1,c2,c3,hl,c6,v⟩:=h;have m:cap=Us.length:=by
    cases t with
    |full=>exact c3.symm
    |nil=>obtain⟨rfl,rfl⟩:=c3;have:=(c6 rfl).1;subst this;rfl
    |no=>cases ht
    |nn=>cases ht
    |own k z=>cases ht
  subst m;let r:A8:=⟨y,xs.length,Us.length,z,xs.length⟩;have a6:Us.length=xs.length:=hl.length;have f:∀b o,¬r.a1 b o:=by rintro b o ⟨p,_,_,x,h2⟩;grind
  have a:∀(j:Nat) (r': A8),(g.tk++[r])[j]? =some r'-> g.tk[j]? =some r'\/ (j=g.tk.length/\r'= r):=WZ
  have d:Le g w ⟨g.bx,g.tk++[r],g.im⟩ w:=⟨λ_ _ h=>⟨h,rfl⟩,λ_ _ h=>h,λj r' hj=>⟨r', by rw[getElem?_append_left (List.getElem?_eq_some_iff.1 hj).1];exact hj, .inl rfl⟩⟩;refine⟨⟨g.bx,g.tk++[r],g.im⟩,⟨d,le_refl _,rfl,rfl,rfl,λ_ _ _ _=>rfl,λ_ _ _ _ _=>⟨rfl,rfl⟩,λ_ _ h => .inl h,λ_ h => .inl h,λj r' hj b o l=> ?_⟩, ?_, ?_⟩
  · grind
  · refine⟨c.lenB,by simp[c.lenT],λi b ob x h2=>(c.ob i b ob x h2).mono d rfl,c.nodup,c.noim,λj n r' hj hn=> ?_,λj r' hj b o l=> ?_,λj j' r1 r2 a5 hj a2 b o l q=> ?_,c.imlt,c.gl⟩
    · rcases a j r' hj with h|⟨rfl,rfl⟩
      · have a3:=(List.getElem?_eq_some_iff.1 h).1;refine(c.tok j n r' h ?_).mono d λ_ _ _=>rfl
        have:j<H.T.length:=by rw[<-c.lenT];exact a3
        simpa [getElem?_append_left this]using hn
      · rw[c.lenT]at hn;simp at hn;subst hn;exact⟨rfl,rfl⟩
    · rcases a j r' hj with h|⟨_,rfl⟩
      · exact c.tkz j r' h b o l
      · exact absurd l (f b o)
    · rcases a j r1 hj with h|⟨_,rfl⟩
      · rcases a j' r2 a2 with h'| ⟨_,rfl⟩
        · exact c.tkd j j' r1 r2 a5 h h' b o l q
        · exact absurd q (f b o)
      · exact absurd l (f b o)
  · refine⟨y,Us.length,sz,Us,rfl,c1,c2,⟨?_,r, ?_,rfl, ?_,λ_=>⟨rfl,rfl, ?_⟩⟩,AM.mono d _ _ hl,c6,λp hp=>⟨(v p hp).1,(v p hp).2.mono d⟩⟩
    · rcases Nat.eq_zero_or_pos Us.length with e|e
      · exact .inr e
      · left;obtain⟨V,hV⟩:∃V,Us[0]? =some V:=⟨Us[0],List.getElem?_eq_getElem e⟩;have x:=(pB hf hl V (List.mem_of_getElem? hV)).1;cases y with
        |none=>have:=(c6 rfl).1;subst this;simp at e
        |some p=>exact(((v p rfl).2 0 V hV).1).symm.trans x
    · rw[<-c.lenT];simp
    · rw[a6];exact le_refl _
    · rcases Nat.eq_zero_or_pos Us.length with e|e
      · exact .inl e
      · exact .inr λp hp=>(v p hp).1.resolve_right (λh=>by rw[h]at e;simp at e)
def sZ{t t': Tk}{k n:Nat}{o b:TI}(hT:ty? P T=some o)(hk:o.kind = .slice)(hE:ty? P o.elem=some b)(m:Nat.blt 0 b.size=true)
    (hx:ev? s x=some (.slice xs t')) (ht:t'.fresh=true) (h:eK b.agg b.size xs=true) (hy:ev? s y=some (.slice ys t)) (i:dN H.T=some k) (hn:xs.length=n) (hf:eK b.agg b.size ys=true)
    (hb:(n+ys.length) * b.bytes<=140737488355328) (hb': n+ys.length<=4611686018427387904) (e:kP H.T (.len (n+ys.length)) some=some T')
    (kk:AD P A G K C (.tk::I) ((d, .slice (xs++ys) (.own k b.size))::s) ⟨H.B,T'⟩):AD P A G K (⟨some d, .call ⟨.builtin .append, #[x,y], #[T,T]⟩,R,D,S,none⟩::C) I s H:=
  bU (t := .tk) (Y:=⟨H.B,T'⟩) rfl ⟨rfl,λB=>by
    intro g w a next Q hI p l
    have h1:=op1 hx Wm p
    have h2:=op1 hy Wm p
    obtain⟨g1,e1,q,r⟩:=rI ht h hI h1
    obtain⟨Ys,c⟩:=I6 (Aa.mono e1.le _ _ h2) hf
    have j:H.T.length=k:=dI i
    have f:H.T++[Tok.len (n+ys.length)]=T':= Option.some.inj (eQ _ _ _ _ e)
    obtain⟨v,w', g', u,z,f3,f4⟩:=vH (H:=⟨B,H.T++[.len xs.length]⟩) (R:=R) (n:=n) hT hk hE rfl (Nat.le_of_ble_eq_true m) q r c (by simp[hn]) hn hb hb'
    unfold Oper.wp
    rw[j8 u]
    refine l v w' g' (e1.trans z) ?_ (by rw[<-j];exact f4)
    have:(H.T++[Tok.len xs.length]).set H.T.length (.len (n+ys.length))=T':= by rw[<-f];simp
    rw[<-this]
    exact f3⟩ kk
omit [Lay P] in
theorem eX{N:Nat}{D:List Deferred}{c:Code}(b:Nat)(agg:Bool)(z:Nat){t:Tk}{k n:Nat}(hx:lk? s b=some (.slice xs t))(ht:t.fresh=true)(hf:eK agg z xs=true)(hk:dN H.T=some k)(hn:xs.length=n)
    (d:kP H.T (.len n) some=some T') (h:AB P N D c K ((b, .slice xs (.own k z))::s) ⟨H.B,T'⟩):AB P N D c K s H:=λg w a X hs ha p=>by
  have m:=hs b;rw[gY hx]at m;obtain⟨o,e1,j,l⟩:=rI ht hf X m;have i:H.T.length=k:=dI hk;have f:H.T++[Tok.len n]=T':= Option.some.inj (eQ _ _ _ _ d);rw[hn,f]at j;rw[i]at l;refine wp_mono (h o w a j (λu=> ?_) ha p) λ_ _ _ hp=>hp.trans e1
  unfold lk;cases e:Nat.beq b u with
  |true=>have:=Nat.eq_of_beq_eq_true e;subst this;exact l
  |false=>exact Aa.mono e1.le _ _ (hs u)
end rules
end Go.Av
