/- Joined texts. -/
import Derived.Recover
import Derived.MapKept
import Derived.ProofKit
import Derived.JoinedCond
import Derived.Carry
import Derived.Test.YtimbiifcnhgcoaaGreatDoorAvVec5
set_option linter.all false
open List (getElem?_eq_getElem getElem?_inj getElem?_map getElem?_of_mem length_map mem_of_getElem? nodup_nil)
open Nat (le_of_ble_eq_true zero_le)
open Array (getElem?_toList toList_map)
open Bool (and_eq_true)
open Option (bind_eq_some_iff map_eq_some_iff)
open Go Go.Av
variable{args:Array Operand}{p:Array TypeId}{o:Av->St->Prop}{b:Bool}{x y:Code}{fn:Func}{f:FuncId}{m r:Int}{k:IntKind}{c:List Nat}{xs:List UInt8}{i z k':Nat}{a:Op}{dst:Option Tmp}{ti:TI}{T U:TypeId}{v:Value}{W w':World}
namespace Go.Av
open Go
variable [AL]
def upd{α:Type}:List α->List Nat->List α->List α
  |l,[],_=>l
  |l,_::_,[]=>l
  |l,i::is,x::c=>upd (l.set i x) is c
def eZ{α:Type}(l:List α)(is:List Nat)(c:List α):List α:=upd l is c++c.drop is.length
def emb(n:Nat)(is:List Nat)(k:Nat):Nat:=if k<is.length then is.getD k 0 else n+(k-is.length)
section
variable {α:Type}
theorem nM:∀(l:List α) (is:List Nat) (c:List α),(upd l is c).length=l.length
  |l,[],c=>by cases c<;>rfl
  |l,_::_,[]=>rfl
  |l,i::is,x::c=>by rw[upd,nM];simp
theorem Cm:∀(l:List α) (is:List Nat) (c:List α) (j:Nat),j∉is->(upd l is c)[j]? =l[j]?
  |l,[],c,j,_=>by cases c<;>rfl
  |l,_::_,[],j,_=>rfl
  |l,i::is,x::c,j,h=>by
    simp only[List.mem_cons,not_or]at h
    rw[upd,Cm _ is c j h.2,List.getElem?_set_ne (Ne.symm h.1)]
theorem Cn:∀(l:List α) (is:List Nat) (c:List α) (k i:Nat),is.Nodup->(∀i∈is,i<l.length)->is.length<=c.length->is[k]? =some i->(upd l is c)[i]? =c[k]?
  |l,[],c,k,i,_,_,_,h=>by simp at h
  |l,_::_,[],k,i,_,_,h,_=>by simp at h
  |l,a::is,x::c,0,i,hn,b,O,h=>by
    simp at h
    subst h
    rw[List.nodup_cons]at hn
    rw[upd,Cm _ is c a hn.1,List.getElem?_set_self (b a Wb)]
    rfl
  |l,a::is,x::c,k+1,i,hn,b,O,h=>by
    rw[List.nodup_cons]at hn
    rw[upd,Cn (l.set a x) is c k i hn.2 (λi X=>by rw[List.length_set];exact b i (by simp[X])) Zq Wu]
    simp
structure Bp(n:Nat)(is:List Nat):Prop where
  nodup:is.Nodup
  lt:∀i∈is,i<n
theorem mQ{l:List α}{is:List Nat}{c:List α}(O:is.length<=c.length):(eZ l is c).length=l.length+(c.length-is.length):=by unfold eZ;rw[List.length_append,nM,List.length_drop]
theorem jD{l:List α}{is:List Nat}{c:List α}{j:Nat}(hj:j<l.length)(h:j∉is):(eZ l is c)[j]? =l[j]? :=by unfold eZ;rw[List.getElem?_append_left (by rw[nM];exact hj),Cm _ _ _ _ h]
theorem nN{n:Nat}{is:List Nat}{k:Nat}(h:k<is.length):is[k]? =some (emb n is k):=by unfold emb;rw[if_pos h];simp[List.getD,h]
theorem pM{l:List α}{is:List Nat}{c:List α}(hs:Bp l.length is)(O:is.length<=c.length)(k:Nat):(eZ l is c)[emb l.length is k]? =c[k]? :=by
  by_cases h:k<is.length
  · have he:=nN (n:=l.length) h
    have a:=hs.lt _ (mem_of_getElem? he);unfold eZ;rw[List.getElem?_append_left (by rw[nM];exact a)];exact Cn l is c k _ hs.nodup hs.lt O he
  · unfold eZ emb
    rw[if_neg h,List.getElem?_append_right (by rw[nM];omega),nM,List.getElem?_drop]
    congr 1
    omega
def oE{l:List α}{is:List Nat}{c:List α}{j:Nat}(hs:Bp l.length is)(O:is.length<=c.length)(hj:j<(eZ l is c).length):(∃k,k<c.length/\j=emb l.length is k)\/(j<l.length/\j∉is):=by
  rw[mQ O]at hj;by_cases h:j<l.length
  · by_cases a:j∈is
    · obtain⟨k,hk,rfl⟩:=List.getElem_of_mem a
      refine .inl ⟨k,om, ?_⟩;have:=nN (n:=l.length) hk;rw[getElem?_eq_getElem hk]at this;exact Option.some.inj this
    · exact .inr ⟨h,a⟩
  · refine .inl ⟨is.length+(j-l.length),om, ?_⟩
    unfold emb;rw[if_neg om];omega
def TA{n:Nat}{is:List Nat}(hs:Bp n is){k:Nat}(h:emb n is k=emb n is k'):k=k':= by
  by_cases c:k<is.length
  · have e1:=nN (n:=n) c
    by_cases b:k'< is.length
    · have a:=nN (n:=n) b
      rw[<-h]at a;exact(getElem?_inj c hs.nodup).1 (e1.trans a.symm)
    · have:=hs.lt _ (mem_of_getElem? e1)
      have d:emb n is k'= n+(k'- is.length):=if_neg b;omega
  · have e1:emb n is k=n+(k-is.length):=if_neg c
    by_cases b:k'< is.length
    · have a:=nN (n:=n) b
      have:=hs.lt _ (mem_of_getElem? a);omega
    · have a:emb n is k'= n+(k'- is.length):=if_neg b
      omega
def NT{n:Nat}{is:List Nat}(hs:Bp n is){k:Nat}(h:emb n is k<n):k<is.length:=by
  refine Classical.byContradiction λhn=> ?_
  have e1:emb n is k=n+(k-is.length):=if_neg hn;omega
end
def Tk.af(N:Nat->Nat):Tk->Tk
  | .own k z => .own (N k) z
  |t=>t
mutual
def AV.af(Q N:Nat->Nat):AV->AV
  | .agg cs => .agg (aX Q N cs)
  | .tup cs => .tup (aX Q N cs)
  | .slice xs t => .slice (aX Q N xs) (t.af N)
  | .ptr i off => .ptr (Q i) off
  | .ac x => .ac (x.af Q N)
  | .fn f a b => .fn f (aX Q N a) (aX Q N b)
  | .iface t x => .iface t (x.af Q N)
  | .map i => .map (Q i)
  | .iter i => .iter (Q i)
  | .view xs n => .view (aX Q N xs) n
  | .aa k z n lo X => .aa (N k) z n lo X
  | .ao k z n j off => .ao (N k) z n j off
  | .undef => .undef
  | .bool b => .bool b
  | .int k n => .int k n
  | .str s => .str s
  | .nilp => .nilp
  | .praw a => .praw a
  | .nilfn => .nilfn
  | .nili => .nili
  | .nilmap => .nilmap
def aX(Q N:Nat->Nat):List AV->List AV
  |[]=>[]
  |x::xs=>x.af Q N::aX Q N xs
end
theorem Et(Q N:Nat->Nat):∀l:List AV,aX Q N l=l.map (AV.af Q N)
  |[]=>by rw[aX];rfl
  |x::l=>by rw[aX,Et Q N l];rfl
mutual
theorem cX(Q N:Nat->Nat):∀x:AV,x.K=true->x.af Q N=x
  | .undef,_=>by rw[AV.af]
  | .bool _,_=>by rw[AV.af]
  | .int _ _,_=>by rw[AV.af]
  | .str _,_=>by rw[AV.af]
  | .agg cs,h=>by rw[AV.af,aU Q N cs X0]
  | .tup cs,h=>by rw[AV.af,aU Q N cs X0]
  | .slice xs t,h=>by
    simp only[AV.K,and_eq_true]at h
    rw[AV.af,aU Q N xs h.2]
    cases t with
    |own k z=>exact absurd h.1 Wb
    |no=>rfl
    |full=>rfl
    |nil=>rfl
    |nn=>rfl
  | .ptr _ _,h=>by cases h
  | .ac x,h=>by rw[AV.af,cX Q N x X0]
  | .nilp,_=>by rw[AV.af]
  | .praw _,_=>by rw[AV.af]
  | .fn _ a b,h=>by
    simp only[AV.K,and_eq_true]at h
    rw[AV.af,aU Q N a h.1,aU Q N b h.2]
  | .nilfn,_=>by rw[AV.af]
  | .iface _ x,h=>by rw[AV.af,cX Q N x X0]
  | .nili,_=>by rw[AV.af]
  | .map _,h=>by cases h
  | .nilmap,_=>by rw[AV.af]
  | .iter _,h=>by cases h
  | .view xs _,h=>by rw[AV.af,aU Q N xs X0]
  | .aa _ _ _ _ _,h=>by cases h
  | .ao _ _ _ _ _,h=>W0
theorem aU(Q N:Nat->Nat):∀xs:List AV,aA xs=true->aX Q N xs=xs
  |[],_=>by rw[aX]
  |x::xs,h=>by
    simp only[aA,and_eq_true]at h
    rw[aX,cX Q N x h.1,aU Q N xs h.2]
end
structure B3(g0 g:Gh)(Q N:Nat->Nat):Prop where
  bx:∀(i b:Nat),g0.bx[i]? =some b->g.bx[Q i]? =some b
  tk:∀(k:Nat) (r:A8),g0.tk[k]? =some r->g.tk[N k]? =some r
  im:∀b o,g0.im b o->g.im b o
def BZ.into{g0 g:Gh}{w:World}(a:∀b o,g0.im b o->g.im b o){b o:Nat}{V:Value}(h:BZ g0 w b o V):BZ g w b o V:=λj u hj=>⟨a _ _ (h j u hj).1,(h j u hj).2⟩
def A9.into{g0 g:Gh}{w:World}(a:∀b o,g0.im b o->g.im b o){b sz o:Nat}{Vs:List Value}(h:A9 g0 w b sz o Vs):A9 g w b sz o Vs:=λi V X=>⟨(h i V X).1,(h i V X).2.into a⟩
mutual
theorem Aa.af{g0 g:Gh}{w:World}{Q N:Nat->Nat}(d:B3 g0 g Q N):∀(x:AV) (v:Value),Aa g0 w x v->Aa g w (x.af Q N) v
  | .undef,_,_=>by rw[AV.af];trivial
  | .bool _,_,h=>by rw[AV.af];exact h
  | .int _ _,_,h=>by rw[AV.af];exact h
  | .str _,_,h=>by rw[AV.af];exact h
  | .agg cs,_,⟨vs,e,m,c⟩=>by rw[AV.af];exact⟨vs,e,AM.af d cs _ m,c⟩
  | .tup cs,_,⟨vs,e,m⟩=>by rw[AV.af];exact⟨vs,e,AM.af d cs _ m⟩
  | .slice xs t,_,⟨a,cap,sz,Vs,e,c,f,h3,h4,l,j⟩=>by
    rw[AV.af]
    refine⟨a,cap,sz,Vs,e,c,f, ?_,AM.af d xs _ h4,l,λp hp=>⟨(j p hp).1,(j p hp).2.into d.im⟩⟩
    cases t with
    |own k z=>obtain⟨e1,r,n,q⟩:=h3;exact⟨e1,r,d.tk _ _ n,q⟩
    |no=>exact h3
    |full=>exact h3
    |nil=>exact h3
    |nn=>exact h3
  | .ptr i _,_,⟨b,c,e⟩=>by rw[AV.af];exact⟨b,d.bx _ _ c,e⟩
  | .ac x,_,⟨b,o,V,e,c,f⟩=>by rw[AV.af];exact⟨b,o,V,e,c.into d.im,Aa.af d x _ f⟩
  | .nilp,_,h=>by rw[AV.af];exact h
  | .praw _,_,h=>by rw[AV.af];exact h
  | .fn _ y cs,_,⟨vs,ws,e,c,f⟩=>by rw[AV.af];exact⟨vs,ws,e,AM.af d y _ c,AM.af d cs _ f⟩
  | .nilfn,_,h=>by rw[AV.af];exact h
  | .iface _ x,_,⟨u,e,c⟩=>by rw[AV.af];exact⟨u,e,Aa.af d x _ c⟩
  | .nili,_,h=>by rw[AV.af];exact h
  | .map i,_,⟨b,c,e⟩=>by rw[AV.af];exact⟨b,d.bx _ _ c,e⟩
  | .nilmap,_,h=>by rw[AV.af];exact h
  | .iter i,_,⟨b,c,e⟩=>by rw[AV.af];exact⟨b,d.bx _ _ c,e⟩
  | .view xs _,_,⟨a,cap,sz,Vs,e,h0,c,f,h4,l,j⟩=>by rw[AV.af];exact⟨a,cap,sz,Vs,e,h0,c,f,AM.af d xs _ h4,l,λp hp=>⟨(j p hp).1,(j p hp).2.into d.im⟩⟩
  | .aa k _ _ _ _,_,⟨a,cap,e,c,f,h3,h4,l,r,hr,j⟩=>by rw[AV.af];exact⟨a,cap,e,c,f,h3,h4,l,r,d.tk _ _ hr,j⟩
  | .ao k _ _ _ _,_,⟨b,o,e,hj,r,hr,j⟩=>by rw[AV.af];exact⟨b,o,e,hj,r,d.tk _ _ hr,j⟩
theorem AM.af{g0 g:Gh}{w:World}{Q N:Nat->Nat}(a:B3 g0 g Q N):∀(cs:List AV) (vs:List Value),AM g0 w cs vs->AM g w (aX Q N cs) vs
  |[],_,h=>by rw[aX];exact h
  |c::cs,_,⟨v,C,e,b,d⟩=>by rw[aX];exact⟨v,C,e,Aa.af a c _ b,AM.af a cs _ d⟩
end
structure Bu(g0 g:Gh)(Q N:Nat->Nat):Prop where
  bx:∀(i:Nat),i<g0.bx.length->g.bx[Q i]? =g0.bx[i]?
  tk:∀(k:Nat),k<g0.tk.length->g.tk[N k]? =g0.tk[k]?
  im:∀b o,g.im b o->g0.im b o
mutual
theorem Aa.ba{g0 g:Gh}{w:World}{Q N:Nat->Nat}(d:Bu g0 g Q N):∀(x:AV) (v:Value),x.ab g0.bx.length g0.tk.length=true->Aa g w (x.af Q N) v->Aa g0 w x v
  | .undef,_,_,_=>trivial
  | .bool _,_,_,h=>by rw[AV.af]at h;exact h
  | .int _ _,_,_,h=>by rw[AV.af]at h;exact h
  | .str _,_,_,h=>by rw[AV.af]at h;exact h
  | .agg cs,_,O,h=>by rw[AV.af]at h;obtain⟨vs,e,m,c⟩:=h;exact⟨vs,e,AM.ba d cs _ WC m,c⟩
  | .tup cs,_,O,h=>by rw[AV.af]at h;obtain⟨vs,e,m⟩:=h;exact⟨vs,e,AM.ba d cs _ WC m⟩
  | .slice xs t,_,O,h=>by
    rw[AV.af]at h
    obtain⟨a,cap,sz,Vs,e,c,f,h3,h4,l,j⟩:=h
    simp only[AV.ab,and_eq_true]at O
    refine⟨a,cap,sz,Vs,e,c,f, ?_,AM.ba d xs _ O.2 h4,l,λp hp=>⟨(j p hp).1,(j p hp).2.into d.im⟩⟩
    cases t with
    |own k z=>
      obtain⟨e1,r,n,q⟩:=h3
      exact⟨e1,r,by rw[<-d.tk k (le_of_ble_eq_true O.1)];exact n,q⟩
    |no=>exact h3
    |full=>exact h3
    |nil=>exact h3
    |nn=>exact h3
  | .ptr i _,_,O,h=>by rw[AV.af]at h;obtain⟨b,c,e⟩:=h;exact⟨b,XC,e⟩
  | .ac x,_,O,h=>by rw[AV.af]at h;obtain⟨b,o,V,e,c,f⟩:=h;exact⟨b,o,V,e,c.into d.im,Aa.ba d x _ WC f⟩
  | .nilp,_,_,h=>by rw[AV.af]at h;exact h
  | .praw _,_,_,h=>by rw[AV.af]at h;exact h
  | .fn _ y cs,_,O,h=>by
    rw[AV.af]at h
    obtain⟨vs,ws,e,c,f⟩:=h
    simp only[AV.ab,and_eq_true]at O
    exact⟨vs,ws,e,AM.ba d y _ O.1 c,AM.ba d cs _ O.2 f⟩
  | .nilfn,_,_,h=>by rw[AV.af]at h;exact h
  | .iface _ x,_,O,h=>by rw[AV.af]at h;obtain⟨u,e,c⟩:=h;exact⟨u,e,Aa.ba d x _ WC c⟩
  | .nili,_,_,h=>by rw[AV.af]at h;exact h
  | .map i,_,O,h=>by rw[AV.af]at h;obtain⟨b,c,e⟩:=h;exact⟨b,XC,e⟩
  | .nilmap,_,_,h=>by rw[AV.af]at h;exact h
  | .iter i,_,O,h=>by rw[AV.af]at h;obtain⟨b,c,e⟩:=h;exact⟨b,XC,e⟩
  | .view xs _,_,O,h=>by
    rw[AV.af]at h
    obtain⟨a,cap,sz,Vs,e,h0,c,f,h4,l,j⟩:=h
    exact⟨a,cap,sz,Vs,e,h0,c,f,AM.ba d xs _ WC h4,l,λp hp=>⟨(j p hp).1,(j p hp).2.into d.im⟩⟩
  | .aa k _ _ _ _,_,O,h=>by
    rw[AV.af]at h
    obtain⟨a,cap,e,c,f,h3,h4,l,r,hr,j⟩:=h
    exact⟨a,cap,e,c,f,h3,h4,l,r,YZ,j⟩
  | .ao k _ _ _ _,_,O,h=>by
    rw[AV.af]at h
    obtain⟨b,o,e,hj,r,hr,j⟩:=h
    exact⟨b,o,e,hj,r,YZ,j⟩
theorem AM.ba{g0 g:Gh}{w:World}{Q N:Nat->Nat}(a:Bu g0 g Q N):∀(cs:List AV) (vs:List Value),aE g0.bx.length g0.tk.length cs=true->AM g w (aX Q N cs) vs->AM g0 w cs vs
  |[],_,_,h=>by rw[aX]at h;exact h
  |c::cs,_,O,h=>by
    rw[aX]at h
    obtain⟨v,C,e,b,d⟩:=h
    simp only[aE,and_eq_true]at O
    exact⟨v,C,e,Aa.ba a c _ O.1 b,AM.ba a cs _ O.2 d⟩
end
def Pg(Q N:Nat->Nat):List (AV×AV)->List (AV×AV)
  |[]=>[]
  |(k,v)::l=>(k.af Q N,v.af Q N)::Pg Q N l
def Ob.af(Q N:Nat->Nat):Ob->Ob
  | .cells cs => .cells (aX Q N cs)
  | .map es => .map (Pg Q N es)
  | .iter s p => .iter s p
def Tok.af(Q N:Nat->Nat):Tok->Tok
  | .len n => .len n
  | .aa xs => .aa (aX Q N xs)
theorem vX(Q N:Nat->Nat)(l:List AV):(aX Q N l).length=l.length:=by rw[Et,length_map]
section
variable {g0 g:Gh} {w:World} {Q N:Nat->Nat}
theorem As.af(a:B3 g0 g Q N):∀(l:List (AV×AV)) (es:List MapEntry),As g0 w l es->As g w (Pg Q N l) es
  |[],_,h=>h
  |(k,v)::l,_,⟨e,C,he,b,c,h3⟩=>⟨e,C,he,Aa.af a k _ b,Aa.af a v _ c,As.af a l _ h3⟩
theorem As.ba(a:Bu g0 g Q N):∀(l:List (AV×AV)) (es:List MapEntry),oS g0.bx.length g0.tk.length l=true->As g w (Pg Q N l) es->As g0 w l es
  |[],_,_,h=>h
  |(k,v)::l,_,hb,⟨e,C,he,b,c,h3⟩=>by
    simp only[oS,and_eq_true]at hb
    exact⟨e,C,he,Aa.ba a k _ hb.1.1 b,Aa.ba a v _ hb.1.2 c,As.ba a l _ hb.2 h3⟩
theorem BJ.af(f:B3 g0 g Q N){b:Nat}{ob:Ob}(h:BJ g0 w b ob):BJ g w b (ob.af Q N):=by
  cases ob with
  |cells cs=>obtain⟨J,R,d,e,h3⟩:=h;exact⟨J,R,d,AM.af f cs _ e,h3⟩
  |map es=>obtain⟨c,a,d,e⟩:=h;exact⟨c,a,d,As.af f es _ e⟩
  |iter s p=>exact h
theorem BJ.ba(f:Bu g0 g Q N){b:Nat}{ob:Ob}(i:ob.ab g0.bx.length g0.tk.length=true)(h:BJ g w b (ob.af Q N)):BJ g0 w b ob:=by
  cases ob with
  |cells cs=>obtain⟨J,R,d,e,h3⟩:=h;exact⟨J,R,d,AM.ba f cs _ i e,h3⟩
  |map es=>obtain⟨c,a,d,e⟩:=h;exact⟨c,a,d,As.ba f es _ i e⟩
  |iter s p=>exact h
theorem A6.af(d:B3 g0 g Q N){r:A8}{t:Tok}(h:A6 g0 w r t):A6 g w r (t.af Q N):=by
  cases t with
  |len n=>exact h
  |aa xs=>obtain⟨a,b,h3,Vs,h4,c⟩:=h;exact⟨by rw[vX];exact a,b,h3,Vs,AM.af d xs _ h4,c⟩
theorem A6.ba(d:Bu g0 g Q N){r:A8}{t:Tok}(e:t.ab g0.bx.length g0.tk.length=true)(h:A6 g w r (t.af Q N)):A6 g0 w r t:=by
  cases t with
  |len n=>exact h
  |aa xs=>obtain⟨a,b,h3,Vs,h4,c⟩:=h;exact⟨by rw[vX]at a;exact a,b,h3,Vs,AM.ba d xs _ e h4,c⟩
end
def Gh.pick(g:Gh)(bs ts:List Nat):Gh:=⟨bs.filterMap (g.bx[·]?),ts.filterMap (g.tk[·]?),g.im⟩
def FI{α:Type}{l:List α}:∀ {is:List Nat},(∀i∈is,i<l.length)->(is.filterMap (l[·]?)).length=is.length
  |[],_=>rfl
  |i::is,h=>by
    have X:=h i Wb
    have E:=FI (is:=is) λj hj=>h j (by simp[hj])
    rw[List.filterMap_cons,getElem?_eq_getElem X]
    simp only[List.length_cons,E]
def FJ{α:Type}{l:List α}:∀ {is:List Nat} (k:Nat),(∀i∈is,i<l.length)->(is.filterMap (l[·]?))[k]? =(is[k]?).bind (l[·]?)
  |[],k,_=>by simp
  |i::is,0,h=>by
    have X:=h i Wb
    rw[List.filterMap_cons,getElem?_eq_getElem X]
    simp
  |i::is,k+1,h=>by
    have X:=h i Wb
    rw[List.filterMap_cons,getElem?_eq_getElem X]
    simp only[List.getElem?_cons_succ]
    exact FJ k λj hj=>h j (by simp[hj])
section
variable {g:Gh} {H:St} {w:World}
def Kn{α:Type}{l:List α}(h:∀a b,a<b->b<l.length->l[a]? =l[b]? ->False):l.Nodup:=
  List.pairwise_iff_getElem.2 λi j X hj c e=>h i j c hj (by rw[getElem?_eq_getElem X,getElem?_eq_getElem hj,e])
def Ko(X:Inv g H w){ts:List Nat}(hb:Bp H.B.length c)(ht:Bp H.T.length ts){B0:List Ob}{T0:List Tok}(a2:B0.length=c.length)(a3:T0.length=ts.length)
    (aa:∀(k i:Nat) (ob:Ob),c[k]? =some i->B0[k]? =some ob->H.B[i]? =some (ob.af (emb H.B.length c) (emb H.T.length ts))) (ab:∀(k i:Nat) (t:Tok),ts[k]? =some i->T0[k]? =some t->H.T[i]? =some (t.af (emb H.B.length c) (emb H.T.length ts)))
    (a7:aQ c.length ts.length B0=true) (a8:aL c.length ts.length T0=true):
    Inv (g.pick c ts) ⟨B0,T0⟩ w/\Bu (g.pick c ts) g (emb H.B.length c) (emb H.T.length ts)/\(g.pick c ts).bx.length=c.length/\(g.pick c ts).tk.length=ts.length:=by
  have hb': ∀i∈c,i<g.bx.length:=λi h=>by rw[X.lenB];exact hb.lt i h
  have z:∀i∈ts,i<g.tk.length:=λi h=>by rw[X.lenT];exact ht.lt i h
  have u:(g.pick c ts).bx.length=c.length:=FI hb';have lt:(g.pick c ts).tk.length=ts.length:=FI z;have q:∀k:Nat,(g.pick c ts).bx[k]? =(c[k]?).bind (g.bx[·]?):=λk=>FJ k hb'
  have gt:∀k:Nat,(g.pick c ts).tk[k]? =(ts[k]?).bind (g.tk[·]?):=λk=>FJ k z
  have p:Bu (g.pick c ts) g (emb H.B.length c) (emb H.T.length ts):=by
    refine⟨λi a6=> ?_,λk m=> ?_,λ_ _ h=>h⟩
    · rw[q,nN (n:=H.B.length) (is:=c) (by rw[<-u];exact a6)];rfl
    · rw[gt,nN (n:=H.T.length) (is:=ts) (by rw[<-lt];exact m)];rfl
  refine⟨⟨by rw[u];exact a2.symm,by rw[lt];exact a3.symm,λk b ob d j=> ?_, ?_,λb a5 o=> ?_,λk t r d j=> ?_,λk r d b o ho=> ?_,λk k' r r' a9 d j=> ?_,X.imlt,X.gl⟩,p,u,lt⟩
  · rw[q]at d
    obtain⟨i,e1,f⟩:=bind_eq_some_iff.1 d;exact(X.ob i b _ f (aa k i ob e1 j)).ba p (by rw[u,lt];exact yU a7 j)
  · refine Kn λa b ad a4 e=> ?_
    have x:b<c.length:=by rw[<-u];exact a4
    have e1:=nN (n:=H.B.length) (show a<c.length by omega);have f:=nN (n:=H.B.length) x;rw[q,q,e1,f]at e;simp only[Option.bind_some]at e;have d:emb H.B.length c a<g.bx.length:=hb' _ (mem_of_getElem? e1);have:=(getElem?_inj d X.nodup).1 e;have:=TA hb this;omega
  · obtain⟨k,hk⟩:=getElem?_of_mem a5
    rw[q]at hk;obtain⟨i,e1,f⟩:=bind_eq_some_iff.1 hk;exact X.noim b (mem_of_getElem? f) o
  · rw[gt]at d
    obtain⟨i,e1,f⟩:=bind_eq_some_iff.1 d;exact(X.tok i _ r f (ab k i t e1 j)).ba p (by rw[u,lt];exact yT a8 j)
  · rw[gt]at d
    obtain⟨i,e1,f⟩:=bind_eq_some_iff.1 d;obtain⟨z1,z2,z3,z4⟩:=X.tkz i r f b o ho;refine⟨z1,λhm=> ?_,z3,z4⟩;obtain⟨k', y⟩:=getElem?_of_mem hm;rw[q]at y;obtain⟨i', v,l⟩:=bind_eq_some_iff.1 y;exact z2 (mem_of_getElem? l)
  · rw[gt]at d j
    obtain⟨i,e1,f⟩:=bind_eq_some_iff.1 d;obtain⟨i', v,l⟩:=bind_eq_some_iff.1 j;refine X.tkd i i' r r' (λe=> ?_) f l;subst e;have m:k<ts.length:=(List.getElem?_eq_some_iff.1 e1).1;exact a9 ((getElem?_inj m ht.nodup).1 (e1.trans v.symm))
def Kp(X:Inv g H w){bs ts:List Nat}(hb:Bp H.B.length bs)(ht:Bp H.T.length ts){m:Gh}{w': World}{B1:List Ob}{T1:List Tok}(am:(g.pick bs ts).bx.length=bs.length)(ax:(g.pick bs ts).tk.length=ts.length)
    (a5:Bu (g.pick bs ts) g (emb H.B.length bs) (emb H.T.length ts)) (hx:Ar (g.pick bs ts) w m w') (u:Inv m ⟨B1,T1⟩ w'):
    ∃g', Ar g w g' w'/\ Inv g' ⟨eZ H.B bs (B1.map (Ob.af (emb H.B.length bs) (emb H.T.length ts))),eZ H.T ts (T1.map (Tok.af (emb H.B.length bs) (emb H.T.length ts)))⟩ w'/\ B3 m g' (emb H.B.length bs) (emb H.T.length ts):=by
  have lB:=X.lenB;have lT:=X.lenT;have bi:m.bx.length=B1.length:=u.lenB;have bj:m.tk.length=T1.length:=u.lenT;have hb': Bp g.bx.length bs:=by rw[lB];exact hb
  have ao:Bp g.tk.length ts:=by rw[lT];exact ht
  have pb:bs.length<=m.bx.length:=by
    rcases Nat.eq_zero_or_pos bs.length with e|e
    · omega
    · have l:bs.length-1<(g.pick bs ts).bx.length:=om
      have:=hx.le.bx _ _ (getElem?_eq_getElem l);have:=(List.getElem?_eq_some_iff.1 this).1;omega
  have pt:ts.length<=m.tk.length:=by
    rcases Nat.eq_zero_or_pos ts.length with e|e
    · omega
    · have l:ts.length-1<(g.pick bs ts).tk.length:=om
      obtain⟨r', p,_⟩:=hx.le.tk _ _ (getElem?_eq_getElem l);have:=(List.getElem?_eq_some_iff.1 p).1;omega
  let Q:=emb H.B.length bs
  let N:=emb H.T.length ts
  let g': Gh:=⟨eZ g.bx bs m.bx,eZ g.tk ts m.tk,m.im⟩
  have a9:Q=emb g.bx.length bs:=by rw[lB]
  have as:N=emb g.tk.length ts:=by rw[lT]
  have a0:∀k:Nat,g'.bx[Q k]? =m.bx[k]? :=λk=>by rw[a9];exact pM hb' pb k
  have au:∀k:Nat,g'.tk[N k]? =m.tk[k]? :=λk=>by rw[as];exact pM ao pt k
  have a3:B3 m g' Q N:=⟨λi b h=>by rw[a0];exact h,λk r h=>by rw[au];exact h,λ_ _ h=>h⟩;have pk:∀(k:Nat) (r:A8),(g.pick bs ts).tk[k]? =some r->g.tk[N k]? =some r:=λk r h=>by rw[a5.tk k (List.getElem?_eq_some_iff.1 h).1];exact h
  have ah:∀b,b∈(g.pick bs ts).bx->b∈g.bx:=λb h=>by obtain⟨k,hk⟩:=getElem?_of_mem h;have:=a5.bx k (List.getElem?_eq_some_iff.1 hk).1;rw[hk]at this;exact mem_of_getElem? this
  have a7:∀b,b∈m.bx->b∈(g.pick bs ts).bx\/w.heap.size<=b:=hx.newbx;have a8:∀(k:Nat) (r:A8),m.tk[k]? =some r->∀b o,r.a1 b o->w.heap.size<=b\/∃z,g.tk[N k]? =some z/\z.a1 b o:=λk r h b o q=>by
    rcases hx.newz k r h b o q with h|⟨z,l,p⟩
    · exact .inl h
    · exact .inr ⟨z,pk k z l,p⟩
  have a6:∀b o,m.im b o->g.im b o\/w.heap.size<=b\/∃(k:Nat) (r:A8),k<ts.length/\g.tk[N k]? =some r/\r.a1 b o:=λb o h=>by
    rcases hx.newim b o h with h|h|⟨k,r,l,p⟩
    · exact .inl h
    · exact .inr (.inl h)
    · exact .inr (.inr ⟨k,r,by rw[<-ax];exact(List.getElem?_eq_some_iff.1 l).1,pk k r l,p⟩)
  have ag:∀b,b∈g'.bx->b∈g.bx\/b∈m.bx:=λb h=>by
    obtain⟨j,hj⟩:=getElem?_of_mem h;rcases oE hb' pb (List.getElem?_eq_some_iff.1 hj).1 with⟨k,hk,rfl⟩|⟨l,p⟩
    · rw[pM hb' pb]at hj;exact .inr (mem_of_getElem? hj)
    · rw[jD l p]at hj;exact .inl (mem_of_getElem? hj)
  have d:∀(j:Nat) (r:A8),g'.tk[j]? =some r->(∃k,j=N k/\m.tk[k]? =some r)\/(j∉ts/\j<g.tk.length/\g.tk[j]? =some r):=λj r hj=>by
    rcases oE ao pt (List.getElem?_eq_some_iff.1 hj).1 with⟨k,hk,rfl⟩|⟨l,p⟩
    · rw[pM ao pt]at hj;exact .inl ⟨k,by rw[as],hj⟩
    · rw[jD l p]at hj;exact .inr ⟨p,l,hj⟩
  have v:∀k,k<ts.length->N k∈ts:=λk hk=>mem_of_getElem? (nN (n:=H.T.length) hk)
  have aa:∀k,k<bs.length->Q k∈bs:=λk hk=>mem_of_getElem? (nN (n:=H.B.length) hk)
  have aj:∀(j:Nat) (r:A8),j∉ts->g.tk[j]? =some r->∀b o,r.a1 b o->b<w.heap.size/\b∉(g.pick bs ts).bx/\(∀(k:Nat) (z:A8),(g.pick bs ts).tk[k]? =some z->¬z.a1 b o):=λj r hj hr b o q=>by
    refine⟨X.bd hr q,λh=>(X.tkz j r hr b o q).2.1 (ah b h),λk z hk a4=> ?_⟩;have y:k<ts.length:=by rw[<-ax];exact(List.getElem?_eq_some_iff.1 hk).1
    exact X.tkd j (N k) r z (λe=>hj (e▸v k y)) hr (pk k z hk) b o q a4
  have an:Le g w g' w':= by
    refine⟨λb o h=>hx.le.im b o h,λi b h=> ?_,λj r h=> ?_⟩
    · by_cases f:i∈bs
      · obtain⟨k,hk,rfl⟩:=List.getElem_of_mem f
        have e1:=nN (n:=H.B.length) hk;rw[getElem?_eq_getElem hk]at e1;have e2:bs[k]=Q k:=Option.some.inj e1;rw[e2]at h ⊢;rw[a0];refine hx.le.bx k b ?_;rw[<-a5.bx k om];exact h
      · exact(jD (List.getElem?_eq_some_iff.1 h).1 f).trans h
    · by_cases f:j∈ts
      · obtain⟨k,hk,rfl⟩:=List.getElem_of_mem f
        have e1:=nN (n:=H.T.length) hk;rw[getElem?_eq_getElem hk]at e1;have e2:ts[k]=N k:=Option.some.inj e1;rw[e2]at h ⊢;rw[au];refine hx.le.tk k r ?_;rw[<-a5.tk k om];exact h
      · exact⟨r,(jD (List.getElem?_eq_some_iff.1 h).1 f).trans h, .inl rfl⟩
  refine⟨g', ⟨an,hx.size,hx.os,hx.tape,hx.output,λb al hn hz=>hx.fr b al (λh=>hn (ah b h)) (λk r hr o=>hz (N k) r (pk k r hr) o),λb o al hn hz=>hx.frc b o al (λh=>hn (ah b h)) (λk r hr=>hz (N k) r (pk k r hr)),λb o h=> ?_,λb h=> ?_,λj r h b o q=> ?_⟩, ?_,a3⟩
  · rcases a6 b o h with h|h|⟨k,r,_,l,p⟩
    · exact .inl h
    · exact .inr (.inl h)
    · exact .inr (.inr ⟨N k,r,l,p⟩)
  · rcases ag b h with h|h
    · exact .inl h
    · rcases a7 b h with h|h
      · exact .inl (ah b h)
      · exact .inr h
  · rcases d j r h with⟨k,rfl,hk⟩|⟨_,_,hj⟩
    · exact a8 k r hk b o q
    · exact .inr ⟨r,hj,q⟩
  · have b0:bs.length<=(B1.map (Ob.af Q N)).length:=by rw[length_map];omega
    have b3:ts.length<=(T1.map (Tok.af Q N)).length:=WF
    have gB:∀k:Nat,(eZ H.B bs (B1.map (Ob.af Q N)))[Q k]? =(B1.map (Ob.af Q N))[k]? :=λk=>pM hb b0 k
    have gT:∀k:Nat,(eZ H.T ts (T1.map (Tok.af Q N)))[N k]? =(T1.map (Tok.af Q N))[k]? :=λk=>pM ht b3 k
    refine⟨?_, ?_,λj b ob l p=> ?_, ?_,λb h o f=> ?_,λj t r l p=> ?_,λj r h b o q=> ?_,λj j' r r' ay l p b o q a4=> ?_,u.imlt,u.gl⟩
    · show (eZ g.bx bs m.bx).length=(eZ H.B bs _).length
      rw[mQ pb,mQ b0,length_map,lB,bi]
    · show (eZ g.tk ts m.tk).length=(eZ H.T ts _).length
      rw[mQ pt,mQ b3,length_map,lT,bj]
    · rcases oE hb' pb (List.getElem?_eq_some_iff.1 l).1 with⟨k,hk,e⟩|⟨e1,e2⟩
      · rw[<-a9]at e
        subst e;rw[a0]at l;have x:(B1.map (Ob.af Q N))[k]? =some ob:=by rw[<-gB];exact p
        rw[getElem?_map,map_eq_some_iff]at x;obtain⟨bl,e3,rfl⟩:=x;exact(u.ob k b bl l e3).af a3
      · have ab:g.bx[j]? =some b:=by rw[<-jD (c:=m.bx) e1 e2];exact l
        have x:H.B[j]? =some ob:=by rw[<-jD (c:=B1.map (Ob.af Q N)) om e2];exact p
        refine(X.ob j b ob ab x).mono an (hx.fr b (X.be (mem_of_getElem? ab)) (λf=> ?_) (λk r hr o q=>(X.tkz (N k) r (pk k r hr) b o q).2.1 (mem_of_getElem? ab)));obtain⟨k,hk⟩:=getElem?_of_mem f;have y:k<bs.length:=by rw[<-am];exact(List.getElem?_eq_some_iff.1 hk).1
        have h3:=a5.bx k om;rw[hk]at h3;have:=(getElem?_inj (List.getElem?_eq_some_iff.1 ab).1 X.nodup).1 (ab.trans h3.symm);exact e2 (this▸aa k y)
    · refine Kn λa b bf aw e=> ?_
      have bg:a<g'.bx.length:=Nat.lt_trans bf aw;rcases oE hb' pb bg with⟨k,hk,ea⟩|⟨a1,a2⟩<;>rcases oE hb' pb aw with⟨k', ac,eb⟩|⟨b1,b2⟩
      · rw[<-a9]at ea eb
        rw[ea,eb,a0,a0]at e;have:=(getElem?_inj hk u.nodup).1 e;subst this;omega
      · -- the callee's against an old one
        rw[<-a9]at ea;rw[ea,a0,getElem?_eq_getElem hk]at e;have e': g.bx[b]? =some m.bx[k]:=by rw[<-jD (c:=m.bx) b1 b2];exact e.symm
        rcases a7 m.bx[k] (List.getElem_mem hk) with h|h
        · obtain⟨k2,ad⟩:=getElem?_of_mem h
          have ae:k2<bs.length:=by rw[<-am];exact(List.getElem?_eq_some_iff.1 ad).1
          have h3:=a5.bx k2 om;rw[ad]at h3;have:=(getElem?_inj b1 X.nodup).1 (e'.trans h3.symm);exact b2 (this▸aa k2 ae)
        · have:=X.be (mem_of_getElem? e');omega
      · rw[<-a9]at eb
        rw[eb,a0,getElem?_eq_getElem ac]at e;have e': g.bx[a]? =some m.bx[k']:=by rw[<-jD (c:=m.bx) a1 a2];exact e
        rcases a7 m.bx[k'] (List.getElem_mem ac) with h|h
        · obtain⟨k2,ad⟩:=getElem?_of_mem h
          have ae:k2<bs.length:=by rw[<-am];exact(List.getElem?_eq_some_iff.1 ad).1
          have h3:=a5.bx k2 om;rw[ad]at h3;have:=(getElem?_inj a1 X.nodup).1 (e'.trans h3.symm);exact a2 (this▸aa k2 ae)
        · have:=X.be (mem_of_getElem? e');omega
      · have e': g.bx[a]? =g.bx[b]? :=by rw[<-jD (c:=m.bx) a1 a2, <-jD (c:=m.bx) b1 b2];exact e
        have:=(getElem?_inj a1 X.nodup).1 e';omega
    · rcases ag b h with h|h
      · rcases a6 b o f with f|f|⟨k,r,_,l,p⟩
        · exact X.noim b h o f
        · have:=X.be h;omega
        · exact(X.tkz _ r l b o p).2.1 h
      · exact u.noim b h o f
    · rcases d j r l with⟨k,rfl,hk⟩|⟨e1,e2,hj⟩
      · have x:(T1.map (Tok.af Q N))[k]? =some t:=by rw[<-gT];exact p
        rw[getElem?_map,map_eq_some_iff]at x;obtain⟨t0,e3,rfl⟩:=x;exact(u.tok k t0 r hk e3).af a3
      · have x:H.T[j]? =some t:=by rw[<-jD (c:=T1.map (Tok.af Q N)) om e1];exact p
        refine(X.tok j t r hj x).mono an λb o q=> ?_
        obtain⟨z1,z2,z3⟩:=aj j r e1 hj b o q;exact(hx.frc b o z1 z2 z3).1
    · rcases d j r h with⟨k,rfl,hk⟩|⟨e1,e2,hj⟩
      · obtain⟨z1,z2,z3,z4⟩:=u.tkz k r hk b o q
        refine⟨z1,λf=> ?_,z3,z4⟩;rcases ag b f with f|f
        · rcases a8 k r hk b o q with h|⟨z,l,p⟩
          · have:=X.be f;omega
          · exact(X.tkz _ z l b o p).2.1 f
        · exact z2 f
      · obtain⟨z1,z2,z3,z4⟩:=X.tkz j r hj b o q
        obtain⟨y1,y2,y3⟩:=aj j r e1 hj b o q;have O:=hx.frc b o y1 y2 y3;refine⟨λf=> ?_,λf=> ?_,by rw[O.1];exact z3,O.2.trans z4⟩
        · rcases a6 b o f with f|f|⟨k,z,y,l,p⟩
          · exact z1 f
          · omega
          · exact X.tkd j (N k) r z (λe=>e1 (e▸v k y)) hj l b o q p
        · rcases ag b f with f|f
          · exact z2 f
          · rcases a7 b f with f|f
            · exact y2 f
            · omega
    · rcases d j r l with⟨k,rfl,hk⟩|⟨e1,e2,hj⟩<;>rcases d j' r' p with⟨k', rfl,ac⟩|⟨e1', e2', hj'⟩
      · exact u.tkd k k' r r' (λe=>ay (by rw[e])) hk ac b o q a4
      · rcases a8 k r hk b o q with h|⟨z,h3,h4⟩
        · have:=X.bd hj' a4;omega
        · have y:k<ts.length:=NT ht (by have h9:=(List.getElem?_eq_some_iff.1 h3).1;rw[lT]at h9;exact h9)
          exact X.tkd (N k) j' z r' (λe=>e1' (e▸v k y)) h3 hj' b o h4 a4
      · rcases a8 k' r' ac b o a4 with h|⟨z,h3,h4⟩
        · have:=X.bd hj q;omega
        · have y:k'< ts.length:=NT ht (by have h9:=(List.getElem?_eq_some_iff.1 h3).1;rw[lT]at h9;exact h9)
          exact X.tkd (N k') j z r (λe=>e1 (e▸v k' y)) h3 hj b o h4 q
      · exact X.tkd j j' r r' ay hj hj' b o q a4
end
mutual
def AV.flat:AV->Bool
  | .undef | .bool _ | .int _ _ | .str _ | .nilp | .praw _ | .nilfn | .nili | .nilmap=>true
  | .agg cs=>pX cs
  | .tup cs=>pX cs
  | .slice xs t=>xs.isEmpty&&(match t with | .own _ _=>false|_=>true)
  | .iface _ x=>x.flat
  | .fn _ a b=>pX a&&pX b
  |_=>false
def pX:List AV->Bool
  |[]=>true
  |x::xs=>x.flat&&pX xs
end
mutual
theorem Aa.flat{g g': Gh}{w:World}:∀(x:AV) (v:Value),x.flat=true->Aa g w x v->Aa g' w' x v
  | .undef,_,_,_=>trivial
  | .bool _,_,_,h=>h
  | .int _ _,_,_,h=>h
  | .str _,_,_,h=>h
  | .agg cs,_,O,⟨vs,e,d,b⟩=>⟨vs,e,AM.flat cs _ O d,b⟩
  | .tup cs,_,O,⟨vs,e,d⟩=>⟨vs,e,AM.flat cs _ O d⟩
  | .slice xs t,_,O,⟨a,cap,sz,Vs,e,b,c,h3,h4,j,m⟩=>by
    simp only[AV.flat,and_eq_true,List.isEmpty_iff]at O
    obtain⟨rfl,ht⟩:=O
    have l:Vs=[]:=h4
    subst l
    refine⟨a,cap,sz,[],e,b,c, ?_,rfl,j,λp hp=>⟨.inr rfl,λi V X=>XX⟩⟩
    cases t with
    |own k z=>cases ht
    |no=>exact h3
    |full=>exact h3
    |nil=>exact h3
    |nn=>exact h3
  | .ptr _ _,_,O,_=>by cases O
  | .ac _,_,O,_=>by cases O
  | .nilp,_,_,h=>h
  | .praw _,_,_,h=>h
  | .fn _ f cs,_,O,⟨vs,ws,e,b,c⟩=>by
    simp only[AV.flat,and_eq_true]at O
    exact⟨vs,ws,e,AM.flat f _ O.1 b,AM.flat cs _ O.2 c⟩
  | .nilfn,_,_,h=>h
  | .iface _ x,_,O,⟨u,e,b⟩=>⟨u,e,Aa.flat x _ O b⟩
  | .nili,_,_,h=>h
  | .map _,_,O,_=>by cases O
  | .nilmap,_,_,h=>h
  | .iter _,_,O,_=>by cases O
  | .view _ _,_,O,_=>by cases O
  | .aa _ _ _ _ _,_,O,_=>by cases O
  | .ao _ _ _ _ _,_,O,_=>by cases O
theorem AM.flat{g g': Gh}{w:World}:∀(cs:List AV) (vs:List Value),pX cs=true->AM g w cs vs->AM g' w' cs vs
  |[],_,_,h=>h
  |c::cs,_,O,⟨v,C,e,a,b⟩=>by
    simp only[pX,and_eq_true]at O
    exact⟨v,C,e,Aa.flat c _ O.1 a,AM.flat cs _ O.2 b⟩
end
def Gh.all(w:World):Gh:=⟨[],[],λb _=>b<w.heap.size⟩
def A1(H:St)(x y:AV):Prop:=∀(g:Gh) (w:World) (v:Value),Inv g H w->Aa g w x v->Aa (Gh.all w) w y v
def Al(H:St)(xs ys:List AV):Prop:=∀(g:Gh) (w:World) (vs:List Value),Inv g H w->AM g w xs vs->AM (Gh.all w) w ys vs
def QR{g:Gh}{H:St}{w:World}(X:Inv g H w):Le ⟨[],[],g.im⟩ w (Gh.all w) w:=⟨λb o h=>⟨X.imlt b o h,rfl⟩,λ_ _ h=>Wp,λ_ _ h=>Wp⟩
theorem Al.nil{H:St}:Al H [] []:=λ_ _ _ _ h=>h
theorem Al.cons{H:St}{x y:AV}{xs ys:List AV}(h:A1 H x y)(hs:Al H xs ys):Al H (x::xs) (y::ys):=λg w _ X ⟨v,C,e,h1,h2⟩=>⟨v,C,e,h g w v X h1,hs g w C X h2⟩
theorem A1.K{H:St}{x:AV}(h:x.K=true):A1 H x x:=λg w v X hr=>Aa.mono (QR X) _ _ (oB (bx:=g.bx) (tk:=g.tk) (im:=g.im) x v h hr)
theorem Al.K{H:St}{xs:List AV}(h:aA xs=true):Al H xs xs:=λg w v X hr=>AM.mono (QR X) _ _ (jY (bx:=g.bx) (tk:=g.tk) (im:=g.im) xs v h hr)
theorem A1.a7{H:St}{x y z:AV}(h:AC x y)(k:A1 H y z):A1 H x z:=λg w v X hr=>k g w v X (h g w v hr)
theorem A1.aa{H:St}{k n lo X:Nat}{xs ys:List AV}(hT:H.T[k]? =some (.aa xs))(hn:xs.length=n)(h:Al H xs ys):A1 H (.aa k z n lo X) (.slice ((ys.take X).drop lo) .no):=λg w v hI hr=>by
  obtain⟨r,Vs,m⟩:=FL hI hr hT hn
  obtain⟨a,cap,rfl,h1,h2,h3,h4,h5,r0,y,hz,a6,h6⟩:=hr
  have:r0=r:=Option.some.inj (y.symm.trans m.hr)
  subst this
  obtain⟨l1,l2,l3⟩:=h6 (by rw[m.n,hn])
  have a9:Vs.length=n:=by rw[m.len,hn]
  refine⟨a,cap-lo,z,(Vs.take X).drop lo, ?_, ?_,om,trivial,((h g w _ hI m.a6).take X).drop lo,λe=> ?_,λq hq=> ?_⟩
  · have:((Vs.take X).drop lo).length=X-lo:=by simp;omega
    rw[this]
  · simp;omega
  · have a5:¬lo<cap:=λO=>by obtain⟨b,o,hh⟩:=h5 O;rw[e]at hh;cases hh
    have d:(Vs.take X).drop lo=[]:=by apply List.eq_nil_of_length_eq_zero;simp;omega
    exact⟨d,om⟩
  · by_cases u:lo<cap
    · obtain⟨p,hp,a7,l⟩:=l3 u
      rw[hq]at l
      cases l
      refine⟨.inl rfl,λi V c=> ?_⟩
      rw[List.getElem?_drop]at c
      have hV:Vs[lo+i]? =some V:=by
        rw[List.getElem?_take]at c
        split at c
        · exact c
        · cases c
      obtain⟨m1,m2⟩:=(m.mem p hp).2 (lo+i) V hV
      refine⟨m1,λj x hj=> ?_⟩
      obtain⟨_,t,m4⟩:=m2 j x hj
      have f:p.off+(lo+i) * z+j=p.off+lo * z+i * z+j:=Zw
      rw[f]at t
      refine⟨?_,t,m4⟩
      show p.block<w.heap.size
      unfold World.cell? at t
      cases hb:w.heap[p.block]? with
      |none=>simp[hb]at t
      |some o=>exact(Array.getElem?_eq_some_iff.1 hb).1
    · have d:(Vs.take X).drop lo=[]:=by apply List.eq_nil_of_length_eq_zero;simp;omega
      rw[d]
      exact⟨.inr rfl,λi V X=>XX⟩
section rules
variable {P:Program} {A:Array Oper} {G:Bool} {K:AX->AE->St->Prop} {C:List Oper} {I:List Aj} {s:AE} {H:St}
variable {d:Option Tmp} {R:TypeId} {D:String} {S:Array Edge}
def xN{J c:List AV}{r:AV}(ha:jZ s args.toList some=some J)(hp:AN P f c r)(n:Al H J c)(hr:r.flat=true)
    (k:AD P A G K C (.all::I) (iG d r s) H):AD P A G K (⟨d, .call ⟨.value (.func f),args,p⟩,R,D,S,none⟩::C) I s H:=
  bU (t := .all) (Y:=H) rfl (by
    intro g w a next Q i q hn
    have v:args.toList.map (ev s)=J:=Option.some.inj (gV _ _ _ ha)
    have j:=jC (g:=g) (w:=w) (s:=s) (a:=a) args.toList (λx hx=>q x Wq)
    rw[v]at j
    have l:AM ⟨[],[],λb _=>b<w.heap.size⟩ w c (args.map a.eval).toList:=by
      rw[toList_map]
      exact n g w _ i j
    unfold Oper.wp
    rw[j9 hp.1 a w]
    show Calls P f (args.map a.eval) w _
    refine(hp.2.2 (λb _=>b<w.heap.size) w _ (λb o h=>h) (i.gl.mono λb o h=>⟨i.imlt b o h,rfl⟩) l).mono ?_
    rintro e w' ⟨y,h1,h2,u,rfl,h3⟩
    have hx:Ar ⟨[],[],g.im⟩ w ⟨[],[],g.im⟩ w':= by
      refine⟨⟨λb o h=>⟨h,(h1.frc b o (i.imlt b o h) Wb (λk r h=>Wp)).1⟩,λ_ _ h=>Wp,λ_ _ h=>Wp⟩,h1.size,h1.os,h1.tape,h1.output,h1.fr,h1.frc,λb o h => .inl h,λb h=>Wp,λk r h=>Wp⟩
    obtain⟨h4,m⟩:=vK i hx (λb o h=>Nat.lt_of_lt_of_le (i.imlt b o h) h1.size)
    exact hn u w' _ h4 m (Aa.flat _ _ hr h3)) k
def lS{J b:List AV}{B0 B1 B': List Ob}{T0 T1 T': List Tok}{v0 v:AV}{nB nT:Nat}(c ts:List Nat)(ha:jZ s args.toList some=some J)
    (hp:AI P f b ⟨B0,T0⟩ (λe l=>e = .ret v0/\l=⟨B1,T1⟩)) (a1:H.B.length=nB) (a2:H.T.length=nT) (h:Bp nB c) (j:Bp nT ts) (n:B0.length=c.length) (q:T0.length=ts.length)
    (a3:∀(k i:Nat) (ob:Ob),c[k]? =some i->B0[k]? =some ob->H.B[i]? =some (ob.af (emb nB c) (emb nT ts))) (a4:∀(k i:Nat) (t:Tok),ts[k]? =some i->T0[k]? =some t->H.T[i]? =some (t.af (emb nB c) (emb nT ts)))
    (y:aQ c.length ts.length B0=true) (z:aL c.length ts.length T0=true) (a0:aE c.length ts.length b=true) (hw:AA J (aX (emb nB c) (emb nT ts) b))
    (hv:v0.af (emb nB c) (emb nT ts)=v) (m:eZ H.B c (B1.map (Ob.af (emb nB c) (emb nT ts)))=B') (o:eZ H.T ts (T1.map (Tok.af (emb nB c) (emb nT ts)))=T')
    (k:AD P A G K C (.all::I) (iG d v s) ⟨B', T'⟩):AD P A G K (⟨d, .call ⟨.value (.func f),args,p⟩,R,D,S,none⟩::C) I s H:=
  bU (t := .all) (Y:=⟨B', T'⟩) rfl (by
    intro g w a next Q hI ho hn
    subst a1;subst a2
    have a5:args.toList.map (ev s)=J:=Option.some.inj (gV _ _ _ ha)
    have hl:=jC (g:=g) (w:=w) (s:=s) (a:=a) args.toList (λx hx=>ho x Wq)
    rw[a5]at hl
    obtain⟨p1,p2,p3,p4⟩:=Ko hI h j n q a3 a4 y z
    have r:AM (g.pick c ts) w b (args.map a.eval).toList:=by
      rw[toList_map]
      exact AM.ba p2 b _ (by rw[p3,p4];exact a0) (hw _ _ _ hl)
    unfold Oper.wp
    rw[j9 hp.1 a w]
    show Calls P f (args.map a.eval) w _
    refine(hp.2 _ w _ p1 r).mono ?_
    rintro e w' ⟨g1,l,x,h1,h2,h3,rfl,rfl⟩
    obtain⟨u,rfl,hu⟩:=h3
    obtain⟨g', e1,e2,e3⟩:=Kp hI h j p3 p4 p2 h1 h2
    rw[m,o]at e2
    exact hn u w' g' e1 e2 (by rw[<-hv];exact Aa.af e3 _ _ hu)) k
def CN(P:Program)(f:FuncId)(args:List AV)(x:AV):Prop:=
  Ax P f/\aA args=true/\∀(im:Nat->Nat->Prop) (w:World) (J:Array Value),(∀b o,im b o->b<w.heap.size)->Aq im w->AM ⟨[],[],im⟩ w args J.toList->
    Calls P f J w λe w'=> ∃im', Ar ⟨[],[],im⟩ w ⟨[],[],im'⟩ w'/\ (∀b o,im' b o->b<w'.heap.size)/\∃u,e = .panicked [{ v:=u,recovered:=false }]/\Aa ⟨[],[],im'⟩ w' x u
def Kq{args:List AV}{r:AV}(O:r.K=true)(ha:aA args=true)(h:AI P f args ⟨[],[]⟩ (λe _=>e = .pan r)):CN P f args r:=by
  refine⟨h.1,ha,λim w J c a j=> ?_⟩;have X:Inv ⟨[],[],im⟩ ⟨[],[]⟩ w:=⟨rfl,rfl,λi b ob h=>Wp,nodup_nil,λb h=>Wp,λk t r h=>Wp,λk r h=>Wp,
    λk n r r' _ h=>Wp,c,a⟩
  refine(h.2 _ w J X j).mono ?_;rintro e w' ⟨g', Y,x,h1,h2,h3,rfl⟩;obtain⟨u,rfl,l⟩:=h3;obtain⟨g,m,d⟩:=g';exact⟨d,⟨⟨h1.le.im,λi b h=>Wp,λk r h=>Wp⟩,h1.size,h1.os,h1.tape,h1.output,h1.fr,h1.frc,h1.newim,λb h=>Wp,λk r h=>Wp⟩,h2.imlt,u,rfl,oB r u O l⟩
def TB{J b:List AV}{x:AV}(ha:jZ s args.toList some=some J)(hp:CN P f b x)(hw:AA J b)
    (k:K (.pan x) s H):AD P A false K (⟨d, .call ⟨.value (.func f),args,p⟩,R,D,S,none⟩::C) I s H:=
  .inr (.inr ⟨rfl,rfl,x,H,(by
    intro g w a next Q i n hn
    have o:args.toList.map (ev s)=J:=Option.some.inj (gV _ _ _ ha)
    have l:=jC (g:=g) (w:=w) (s:=s) (a:=a) args.toList (λx hx=>n x Wq)
    rw[o]at l
    have j:AM ⟨[],[],g.im⟩ w b (args.map a.eval).toList:=by
      rw[toList_map]
      exact jY (bx:=g.bx) (tk:=g.tk) _ _ hp.2.1 (hw _ _ _ l)
    unfold Oper.wp
    rw[j9 hp.1 a w]
    show Calls P f (args.map a.eval) w _
    refine(hp.2.2 g.im w _ i.imlt i.gl j).mono ?_
    rintro e w' ⟨c,h1,h2,u,rfl,h3⟩
    obtain⟨h4,m⟩:=vK i h1 h2
    exact hn u w' _ h4 m (Aa.mono (g:=⟨[],[],c⟩) (w:=w') (g':= ⟨g.bx,g.tk,c⟩) (w':= w') ⟨λ_ _ h=>⟨h,rfl⟩,λ_ _ h=>Wp,λ_ _ h=>Wp⟩ _ _ h3)),k⟩)
def TC{x:Operand}{t:TypeId}{v:AV}(hx:ev? s x=some (.iface t v))(k:K (.pan (.iface t v)) s H):AD P A false K (⟨d, .panic x,R,D,S,none⟩::C) I s H:=
  .inr (.inr ⟨rfl,rfl, .iface t v,H,(by
    intro g w a next Q h i hn
    have c:Aa g w (.iface t v) (a.eval x):=by have:=i x We;rwa [pW hx]at this
    have f:=c
    obtain⟨u,e,j⟩:=c
    unfold Oper.wp
    have b:(execOp a.eval ⟨d, .panic x,R,D,S,none⟩).run P w = .halt (.panic (.iface t u)) w:=by
      simp[execOp,Instr.panic,e,goPanic]
    rw[b]
    rw[e]at f
    exact hn _ w g (eV g w) h f),k⟩)
def Eu[Lay P]{d:Tmp}{x:Operand}{v:AV}{f:TI}(hT:ty? P T=some f)(hk:f.kind ≠ .iface)(hx:ev? s x=some v)(k:AD P A G K C (.pure::I) ((d, .iface T v)::s) H):
    AD P A G K (⟨some d, .makeInterface T x,R,D,S,none⟩::C) I s H:=
  bU rfl (eY λg w a i=>by
    have h:=op1 hx We i
    obtain⟨c,b,z0,t1,t2,j,l,_⟩:=(eH hT).ex
    refine⟨.iface T (a.eval x), ?_,_,rfl,h⟩
    have:∀ms,b ≠ .interface ms:=λms e=>by subst e;exact hk j.symm
    cases b<;>first|(exact absurd rfl (this _))|simp[execOp,Instr.makeInterface,run_underlying t2,Result.andThen]) k
def Ev{c:Array (String×TypeId)}(h:P.underlying T=some (.interface c)){u:Value}(a:(u = .nilIface/\b=true)\/(∃t v,u = .iface t v)/\b=false)(n:Nat)(w:World):(Op.equalIn (n+1) T u .nilIface).run P w = .ok b w:=Xx
def NU[Lay P]{d:Tmp}{x:Operand}{v:AV}{m:TI}(hT:ty? P T=some m)(hk:m.kind = .iface)(hx:ev? s x=some v)(c:(match v with | .nili=>some false | .iface _ _=>some true|_=>none)=some b)(k:AD P A G K C (.pure::I) ((d, .bool b)::s) H):
    AD P A G K (⟨some d, .binOp .neq T x (.const .nilIface) U,R,D,S,none⟩::C) I s H:=
  bU rfl (eY λg w a o=>by
    have i:=op1 hx We o
    obtain⟨j,f,z0,t1,t2,l,p,_⟩:=(eH hT).ex
    have n:∃ms,f = .interface ms:=Y7
    obtain⟨ms,rfl⟩:=n
    have h:a.eval (.const .nilIface) = .nilIface:=rfl
    refine⟨.bool b, ?_,rfl⟩
    cases v with
    |nili=>
      cases c
      have e:a.eval x = .nilIface:=i
      have h3:(Op.equal T .nilIface .nilIface).run P w = .ok true w:=Ev t2 (.inl ⟨rfl,rfl⟩) 9999 w
      simp[execOp,e,h,eqGuard,Go.binOp,h3,Result.andThen]
    |iface t v=>
      cases c
      obtain⟨u,e,_⟩:=i
      have h3:(Op.equal T (.iface t u) .nilIface).run P w = .ok false w:=Ev t2 (.inr ⟨⟨t,u,rfl⟩,rfl⟩) 9999 w
      simp[execOp,e,h,eqGuard,Go.binOp,h3,Result.andThen]
    |_=>cases c) k
end rules
def QS(g:Gh)(w:World):Option AV->FrameMode->Prop
  |none,u=>u = .returning
  |some x,u=>∃v,u = .panicking [{ v:=v,recovered:=false }]/\Aa g w x v
def B8(P:Program)(f:FuncId)(caps:List AV)(rec:Option AV)(H Y:St):Prop:=
  Ax P f/\∀(g:Gh) (w:World) (J:Array Value) (u:FrameMode),Inv g H w->AM g w caps J.toList->QS g w rec u->
    CallsD P f J u w λe u' w'=> (∃v,e = .returned v)/\settle u' = .returning/\∃g', Ar g w g' w'/\ Inv g' Y w'
theorem B8.enter{P:Program}{C:Code}{id:Nat}{j q:Nat}{t1 t2:TypeId}{p1 p2:String}{a1 a2:Array Edge}{c:List AV}{i:Option AV}{H Y:St}{N:Nat}(hf:P.funcs[f]? =some fn)
    (hb:fn.body=some (.seq (.region id #[⟨some j, .call ⟨.builtin .recover, #[], #[]⟩,t1,p1,a1,none⟩,⟨some q, .assign (.tmp j),t2,p2,a2,none⟩] false) C)) (hN:fn.ntmps=N)
    (p:(fn.name == "runtime.NumGoroutine")=false) (o:Nat.ble c.length N=true) (hr:Nat.blt j N=true) (hx:Nat.blt q N=true) (z:fn.results = #[]) (ap:∀x,i=some x->∃t y,x = .iface t y)
    (h:AB P N [] C (λae s a5=>(ae = .normal\/ae = .ret)/\a5=Y) ((q,i.getD .nili)::(j,i.getD .nili)::cD 0 c) H):B8 P f c i H Y:=by
  refine⟨⟨fn,hf,p,YF⟩,λg w J u X hl hm=> ?_⟩;refine callsD_of_wpS hf hb λb cs O=> ?_
  have a6:c.length<=N:=le_of_ble_eq_true o;have aa:j<N:=le_of_ble_eq_true hr;have av:q<N:=le_of_ble_eq_true hx;have an:J.size=c.length:=by simpa using hl.length
  let l:Act:={ tmps:=J++Array.replicate (fn.ntmps-J.size) undef,defers:=[] }
  have af:l.tmps.size=N:=by simp[l];omega
  have ab:A3 g w (cD 0 c) l.tmps:=λt=>by
    rw[kL];simp only[Nat.not_lt_zero,if_false,Nat.sub_zero];cases e:c[t]? with
    |none=>trivial
    |some v=>
      obtain⟨u,r,h2⟩:=hl.get e;have:l.tmps.getD t undef=u:=by rw[getElem?_toList]at r;have a8:=(Array.getElem?_eq_some_iff.1 r).1;simp only[Array.getD_eq_getD_getElem?, l];rw[Array.getElem?_append_left a8,r];rfl
      rw[this];exact h2
  obtain⟨x,k,a4,m,a9⟩:∃x k,Aa g w (i.getD .nili) x/\settle k = .returning/\
      ((recoverD (b::cs)=none/\x = .nilIface/\({ b with mode:=k }:Frame)=b)\/recoverD (b::cs)=some (x,{ b with mode:=k }::cs)):=by
    cases i with
    |none=>have hu:u = .returning:=hm;subst hu;exact⟨.nilIface, .returning,rfl,rfl, .inl ⟨by simp[recoverD,O],rfl,by rw[<-O]⟩⟩
    |some y=>obtain⟨v,hu,hv⟩:=hm;exact⟨v, .panicking [{ v:=v,recovered:=true }],hv,rfl, .inr (by simp[recoverD,O,hu])⟩
  refine wpS_seq (wpS_region ?_);have e1:∀a:Act,(execOp a.eval ⟨some j, .call ⟨.builtin .recover, #[], #[]⟩,t1,p1,a1,none⟩).run P w = .ok .recover w:=by intro a;simp[execOp,resolve,invoke,builtin]
  show wpOpsS P _ _ [0,1] l (b::cs) w;unfold wpOpsS;simp only[List.getElem?_toArray,List.getElem?_cons_zero,Region.wanted,if_true,e1];have e2:∀a:Act,(execOp a.eval ⟨some q, .assign (.tmp j),t2,p2,a2,none⟩).run P w = .ok (.value (a.eval (.tmp j))) w:=λa=>rfl
  have ac:=ab.put (d:=j) (v:=i.getD .nili) (u:=x) om a4;have n:(l.put (some j) x).eval (.tmp j)=x:=by simp[Act.eval,Act.put,af,aa]
  have ad:=ac.put (d:=q) (v:=i.getD .nili) (u:=x) (by simp[Act.put];omega) a4;have fin:C.wpS P (bodyPostS P fn b cs λe k w'=> (∃v,e=Ending.returned v)/\settle k=FrameMode.returning/\∃g', Ar g w g' w'/\ Inv g' Y w') ((l.put (some j) x).put (some q) x) ({ b with mode:=k }::cs) w:=by
    refine wpS_of_wp ?_;refine wp_mono (h g w _ X ad (by simp[Act.put];omega) rfl) ?_;rintro e a' w' ⟨ae,s', a5,g', r,h2,h3,h4,h5,h6,h7,rfl⟩;have a3:(results fn a'.tmps).run P w' = .ok (.tuple #[]) w':= by simp[results,z]
    rcases h7 with rfl|rfl
    · cases (show e = .normal from r)
      exact⟨h3,k,rfl,_,a3,⟨_,rfl⟩,m,g', h4,h5⟩
    · cases (show e = .ret from r)
      exact⟨h3,k,rfl,_,a3,⟨_,rfl⟩,m,g', h4,h5⟩
  rcases a9 with⟨q1,rfl,q2⟩|q1
  · rw[q2]at fin
    simp only[q1];unfold wpOpsS;simp only[List.getElem?_toArray,List.getElem?_cons_succ,List.getElem?_cons_zero,Region.wanted,if_true,e2,Oper.upon_value,n];unfold wpOpsS;exact fin
  · simp only[q1]
    unfold wpOpsS;simp only[List.getElem?_toArray,List.getElem?_cons_succ,List.getElem?_cons_zero,Region.wanted,if_true,e2,Oper.upon_value,n];unfold wpOpsS;exact fin
section
variable {P:Program} [Lay P]
def aDg(P:Program)[Lay P](rs:List ResultVar)(fd:FuncId)(caps:List AV)(o:Av->St->Prop):AX->AE->St->Prop
  | .normal=>λs H=>∃Y,B8 P fd caps none H Y/\∃v,resK? P s Y rs nI=some v/\o (.ret v) Y
  | .ret=>λs H=>∃Y,B8 P fd caps none H Y/\∃v,resK? P s Y rs nI=some v/\o (.ret v) Y
  | .pan x=>λs H=>∃Y,B8 P fd caps (some x) H Y/\∃v,resK? P s Y rs nI=some v/\o (.ret v) Y
  |_=>λ_ _=>False
def Ph{c:FuncId}{c0 C:Code}{id d:Nat}{b:Array Operand}{t1 t2:TypeId}{p1 p2:String}{a1 a2:Array Edge}{args:List AV}{H:St}(rs:List ResultVar){N:Nat}
    (hf:P.funcs[f]? =some fn) (hb:fn.body=some (.seq c0 (.seq (.region id #[⟨some d, .makeFunc (.func c) #[] b,t1,p1,a1,none⟩,⟨none, .defer ⟨.value (.tmp d), #[], #[]⟩,t2,p2,a2,none⟩] false) C))) (hN:fn.ntmps=N)
    (k:(fn.name == "runtime.NumGoroutine")=false) (i:Nat.ble args.length N=true) (ai:Nat.blt d N=true) (z:fn.results=rs.toArray)
    (h:AB P N [] c0 (λae s a3=>ae = .normal/\∃cv,jZ s b.toList some=some cv/\Ax P c/\∀D,AB P N D C (aDg P rs c cv o) ((d, .fn (.func c) [] cv)::s) a3) (cD 0 args) H):AI P f args H o:=by
  refine⟨⟨fn,hf,k,YF⟩,λg w J X hl=> ?_⟩;have a6:args.length<=N:=le_of_ble_eq_true i;have a0:d<N:=le_of_ble_eq_true ai;have ap:J.size=args.length:=by simpa using hl.length
  refine calls_of_wp_defers hf hb (wp_seq (wp_mono (h g w _ X (λt=> ?_) ?_ rfl) ?_))
  · rw[kL]
    simp only[Nat.not_lt_zero,if_false,Nat.sub_zero];cases e:args[t]? with
    |none=>trivial
    |some v=>
      obtain⟨u,p,h2⟩:=hl.get e;have:(J++Array.replicate (fn.ntmps-J.size) undef).getD t undef=u:=by rw[getElem?_toList]at p;have af:=(Array.getElem?_eq_some_iff.1 p).1;simp only[Array.getD_eq_getD_getElem?];rw[Array.getElem?_append_left af,p];rfl
      rw[this];exact h2
  · simp;omega
  · rintro e a w1 ⟨ae,s1,a3,g1,p,h2,h3,h4,h5,h6,rfl,cv,h7,hcall,h8⟩
    cases (show e = .normal from p);refine wp_seq (wp_region_list ?_);have ac:b.toList.map (ev s1)=cv:=Option.some.inj (gV _ _ _ h7);have q:AM g1 w1 cv (b.map a.eval).toList:=by rw[<-ac,toList_map];exact jC _ λx _=>FC h5.gl h6 x
    let fv:Value := .func (.func c) #[] (b.map a.eval)
    have ad:Aa g1 w1 (.fn (.func c) [] cv) fv:=⟨#[],_,rfl,rfl,q⟩;have e1:(execOp a.eval ⟨some d, .makeFunc (.func c) #[] b,t1,p1,a1,none⟩).run P w1 = .ok (.value fv) w1:=by simp[execOp,Instr.makeFunc,fv]
    have y:(a.put (some d) fv).eval (.tmp d)=fv:=by simp[Act.eval,Act.put,h2,a0]
    have e2:(execOp (a.put (some d) fv).eval ⟨none, .defer ⟨.value (.tmp d), #[], #[]⟩,t2,p2,a2,none⟩).run P w1 = .ok (.defer { target := .fn (.func c) (b.map a.eval),args := #[] }) w1:=by simp only[execOp,resolve,y];simp[fv,Deferred.ofValue]
    unfold wpList;rw[show Region.wanted (⟨some d, .makeFunc (.func c) #[] b,t1,p1,a1,none⟩:Oper) _=true from rfl,if_pos rfl];refine .inl ?_;unfold Oper.wp;rw[e1,Oper.upon_value];unfold wpList;rw[show Region.wanted (⟨none, .defer ⟨.value (.tmp d), #[], #[]⟩,t2,p2,a2,none⟩:Oper) _=true from rfl,if_pos rfl];refine .inl ?_;unfold Oper.wp;rw[e2,Oper.upon_defer];unfold wpList
    let d0:Deferred:={ target := .fn (.func c) (b.map a.eval),args := #[] }
    have ah:A3 g1 w1 ((d, .fn (.func c) [] cv)::s1) (a.put (some d) fv).tmps:=h6.put om ad;have ab:a.defers=[]:=h3;refine wp_mono (h8 [d0] g1 w1 _ h5 ah (by simpa [Act.put]using h2) (by simp[Act.put,ab,d0])) ?_;rintro e a' w2 ⟨ae,s2,σ2,g2,k1,k2,k3,k4,k5,k6,k7⟩;have j:AM g2 w2 cv (b.map a.eval).toList:=AM.mono k4.le _ _ q;have r:(invoke (.fn (.func c) (b.map a.eval)) #[]).run P w2 = .ok (.enter c (b.map a.eval)) w2:=by simp only[invoke,Array.empty_append];exact s9 hcall _ w2
    have m:∀(n:Option AV) (u:FrameMode),u ≠ .run->QS g2 w2 n u->(∃Y,B8 P c cv n σ2 Y/\∃v,resK? P s2 Y rs nI=some v/\o (.ret v) Y)->
        Leaves P fn a'.tmps (λe w'=> ∃g' Y x,Ar g w g' w'/\ Inv g' Y w'/\ QA g' w' x e/\o x Y) a'.defers u w2:=by
      rintro n u hu hm ⟨Y,hd,v,hv,hpost⟩;rw[k3];refine leaves_cons hu r ((hd.2 g2 w2 _ u k5 j hm).mono ?_);rintro e u' w' ⟨⟨v', rfl⟩,hset,g', x1,x2⟩;show Leaves P fn a'.tmps _ [] (settle u') w';rw[hset];have ag:=k6.mono x1.le;obtain⟨vs,Vs,r1,r2,r3⟩:=xL x2 ag rs _ v hv;exact⟨_,tB z r3,g', Y, .ret v,(h4.trans k4).trans x1,x2,⟨_,rfl,vP r1 r2⟩,hpost⟩
    cases ae with
    |normal=>cases (show e = .normal from k1);exact m none .returning Wb rfl k7
    |ret=>cases (show e = .ret from k1);exact m none .returning Wb rfl k7
    |exit id=>exact k7.elim
    |goto l=>exact k7.elim
    |pan x=>obtain⟨u,rfl,hu⟩:=k1;exact m (some x) _ Wb ⟨u,rfl,hu⟩ k7
end
mutual
theorem iK{Q N:Nat->Nat}{n m:Nat}(hb:∀i,i<n->Q i=i)(ht:∀k,k<m->N k=k):∀x:AV,x.ab n m=true->x.af Q N=x
  | .undef,_=>by rw[AV.af]
  | .bool _,_=>by rw[AV.af]
  | .int _ _,_=>by rw[AV.af]
  | .str _,_=>by rw[AV.af]
  | .agg cs,h=>by rw[AV.af,dX hb ht cs WB]
  | .tup cs,h=>by rw[AV.af,dX hb ht cs WB]
  | .slice xs t,h=>by
    simp only[AV.ab,and_eq_true]at h
    rw[AV.af,dX hb ht xs h.2]
    cases t with
    |own k z=>rw[Tk.af,ht k (le_of_ble_eq_true h.1)]
    |no=>rfl
    |full=>rfl
    |nil=>rfl
    |nn=>rfl
  | .ptr i _,h=>by rw[AV.af,hb i WB]
  | .ac x,h=>by rw[AV.af,iK hb ht x WB]
  | .nilp,_=>by rw[AV.af]
  | .praw _,_=>by rw[AV.af]
  | .fn _ a b,h=>by
    simp only[AV.ab,and_eq_true]at h
    rw[AV.af,dX hb ht a h.1,dX hb ht b h.2]
  | .nilfn,_=>by rw[AV.af]
  | .iface _ x,h=>by rw[AV.af,iK hb ht x WB]
  | .nili,_=>by rw[AV.af]
  | .map i,h=>by rw[AV.af,hb i WB]
  | .nilmap,_=>by rw[AV.af]
  | .iter i,h=>by rw[AV.af,hb i WB]
  | .view xs _,h=>by rw[AV.af,dX hb ht xs WB]
  | .aa k _ _ _ _,h=>by rw[AV.af,ht k WB]
  | .ao k _ _ _ _,h=>by rw[AV.af,ht k WB]
theorem dX{Q N:Nat->Nat}{n m:Nat}(hb:∀i,i<n->Q i=i)(ht:∀k,k<m->N k=k):∀xs:List AV,aE n m xs=true->aX Q N xs=xs
  |[],_=>by rw[aX]
  |x::xs,h=>by
    simp only[aE,and_eq_true]at h
    rw[aX,iK hb ht x h.1,dX hb ht xs h.2]
end
theorem Ji{Q N:Nat->Nat}{n m:Nat}(hb:∀i,i<n->Q i=i)(ht:∀k,k<m->N k=k){t:Tok}(h:t.ab n m=true):t.af Q N=t:=by
  cases t with
  |len n=>rfl
  |aa xs=>rw[Tok.af,dX hb ht xs h]
theorem mF{Q N:Nat->Nat}{n m:Nat}(hb:∀i,i<n->Q i=i)(ht:∀k,k<m->N k=k):∀T:List Tok,aL n m T=true->T.map (Tok.af Q N)=T
  |[],_=>rfl
  |t::T,h=>by
    simp only[aL,and_eq_true]at h
    rw[List.map_cons,Ji hb ht h.1,mF hb ht T h.2]
section rules
variable {P:Program} {A:Array Oper} {G:Bool} {K:AX->AE->St->Prop} {C:List Oper} {I:List Aj} {s:AE} {H:St}
variable {d:Option Tmp} {R:TypeId} {D:String} {S:Array Edge}
theorem pN{α:Type}(l c:List α):eZ l [] c=l++c:=by unfold eZ;rw[List.length_nil,List.drop_zero];cases c<;>rfl
def jR{J a:List AV}{T1:List Tok}{v:AV}{B:List Ob}(hσ:H=⟨B,[]⟩)(ha:jZ s args.toList some=some J)
    (hp:AI P f a ⟨[],[]⟩ (λe g=>e = .ret v/\g=⟨[],T1⟩)) (O:aA a=true) (hw:AA J a) (j:v.ab 0 T1.length=true) (hT:aL 0 T1.length T1=true)
    (k:AD P A G K C (.all::I) (iG d v s) ⟨B,T1⟩):AD P A G K (⟨d, .call ⟨.value (.func f),args,p⟩,R,D,S,none⟩::C) I s H:=by
  subst hσ;have c:∀k,k<T1.length->emb 0 [] k=k:=λk _=>by simp[emb]
  have b:∀i,i<0->emb B.length [] i=i:=λi h=>om
  refine lS (nB:=B.length) (nT:=0) (B0:=[]) (T0:=[]) (B1:=[]) (T1:=T1) (v0:=v) [] [] ha hp rfl rfl ⟨nodup_nil,Wb⟩ ⟨nodup_nil,Wb⟩ rfl rfl (λk i ob h=>Wp) (λk i t h=>Wp) rfl rfl
    (aD _ _ _ O) (by rw[aU _ _ _ O];exact hw) (iK b c v j) (B':= B) (T':= T1) ?_ ?_ k
  · rw[pN];simp
  · rw[pN,mF b c T1 hT];rfl
def Jj{J a:List AV}{xs ys:List AV}{v0 v:AV}{nT:Nat}{T': List Tok}(j:Nat)(ha:jZ s args.toList some=some J)
    (hp:AI P f a ⟨[],[.aa xs]⟩ (λe n=>e = .ret v0/\n=⟨[],[.aa ys]⟩)) (b:H.T.length=nT) (hj:H.T[j]? =some (.aa xs)) (hx:aA xs=true) (q:aA ys=true) (m:aE 0 1 a=true)
    (hw:AA J (aX (emb H.B.length []) (emb nT [j]) a)) (o:v0.af (emb H.B.length []) (emb nT [j])=v) (c:jX j (.aa ys) H.T some=some T')
    (k:AD P A G K C (.all::I) (iG d v s) ⟨H.B,T'⟩):AD P A G K (⟨d, .call ⟨.value (.func f),args,p⟩,R,D,S,none⟩::C) I s H:=by
  have l:j<nT:=by rw[<-b];exact(List.getElem?_eq_some_iff.1 hj).1
  refine lS (nB:=H.B.length) (nT:=nT) (B0:=[]) (T0:=[.aa xs]) (B1:=[]) (T1:=[.aa ys]) (v0:=v0) [] [j] ha hp rfl b ⟨nodup_nil,Wb⟩ ⟨Wb,XR⟩ rfl rfl (λk i ob h=>Wp) (λk i t h ht=> ?_) rfl
    (by simp only[List.length_nil,List.length_cons,aL,Tok.ab,Bool.and_true];exact aD _ _ _ hx) m hw o (B':= H.B) (T':= T') ?_ ?_ k
  · cases k with
    |zero=>simp at h ht;subst h;subst ht;rw[Tok.af,aU _ _ _ hx];exact hj
    |succ k=>simp at h
  · rw[pN];simp
  · obtain⟨_,g⟩:=d7 _ _ _ _ _ c
    rw[<-Option.some.inj g];simp[eZ,upd,Tok.af,aU _ _ _ q]
end rules
theorem AI.mono{P:Program}{args:List AV}{H:St}{post': Av->St->Prop}(h:AI P f args H o)(hp:∀e Y,o e Y->post' e Y):AI P f args H post':=
  ⟨h.1,λg w J X a=>(h.2 g w J X a).mono λe w' ⟨g', Y,x,h1,h2,h3,h4⟩=>⟨g', Y,x,h1,h2,h3,hp _ _ h4⟩⟩
def QT{xs ys b c:List AV}(h:AA xs b)(k:AA ys c):AA (xs++ys) (b++c):=λg w vs i=>by
  have f:∀(xs:List AV) (vs:List Value),AM g w (xs++ys) vs->∃a v2,vs=a++v2/\AM g w xs a/\AM g w ys v2:=by
    intro xs
    induction xs with
    |nil=>intro vs h;exact⟨[],vs,rfl,rfl,h⟩
    |cons x xs E=>
      intro vs h
      obtain⟨v,C,rfl,d,e⟩:=h
      obtain⟨a,v2,rfl,h3,h4⟩:=E C e
      exact⟨v::a,v2,rfl,⟨v,a,rfl,d,h3⟩,h4⟩
  obtain⟨a,v2,rfl,d,e⟩:=f xs vs i
  exact(h g w a d).append (k g w v2 e)
def Pi{P:Program}{args:List AV}{H b:St}{c:AV}(h:AI P f args H (λe a=>∃v,e = .ret v/\AK a v b c)):AI P f args H (λe a=>e = .ret c/\a=b):=
  ⟨h.1,λg w J X i=>(h.2 g w J X i).mono λe w' ⟨g', Y,x,h1,h2,h3,v,e1,h4⟩=>by
    subst e1
    obtain⟨u,rfl,j⟩:=h3
    obtain⟨d,k,l,m⟩:=h4 g' w' u h2 j
    exact⟨d,b, .ret c,h1.trans k,l,⟨u,rfl,m⟩,rfl,rfl⟩⟩
theorem kQ{P:Program}{args:List AV}{H:St}(h:AI P f args H (λe a=>∃v nB mT,e = .ret v/\H.B.length<=nB/\H.T.length<=mT/\v.ab nB mT=true/\aQ nB mT (a.B.take nB)=true/\aL nB mT (a.T.take mT)=true/\o (.ret v) ⟨a.B.take nB,a.T.take mT⟩)):AI P f args H o:=
  ⟨h.1,λg w J X b=>(h.2 g w J X b).mono λe w' ⟨g', Y,x,h1,h2,h3,v,nB,mT,e1,l1,l2,h4,h5,h6,h7⟩=>by
    subst e1
    obtain⟨u,rfl,c⟩:=h3
    exact⟨g'.bf nB mT,_, .ret v,rN h1 (by rw[X.lenB];exact l1) (by rw[X.lenT];exact l2),pK h2 h5 h6,⟨u,rfl,Aa.ab v u h4 c⟩,h7⟩⟩
def B8.da{P:Program}{a:List AV}{b:Option AV}{H Y:St}(h:B8 P f a b H Y):Ax P f:=h.1
section
variable {P:Program} {A:Array Oper} {G:Bool} {K:AX->AE->St->Prop} {C:List Oper} {I:List Aj} {s:AE} {H:St}
variable {d:Tmp} {R:TypeId} {D:String} {S:Array Edge}
def Kg{x y:Operand}{f:IntKind}{n r:Int}(hx:ev? s x=some (.int k m))(c:ev? s y=some (.int f n))(hn:0<=n)(hr:m.fdiv (2 ^ min n.toNat k.bits)=r)
    (e:AD P A G K C (.pure::I) ((d, .int k r)::s) H):AD P A G K (⟨some d, .binOp .shr T x y U,R,D,S,none⟩::C) I s H:=
  fC hx c (λg w a b ha hb=>Xi) e
def Vg{x y:Operand}{f:IntKind}{n r:Int}(hx:ev? s x=some (.int k m))(c:ev? s y=some (.int f n))(hn:0<=n)(hr:k.wrap (m * 2 ^ min n.toNat k.bits)=r)
    (e:AD P A G K C (.pure::I) ((d, .int k r)::s) H):AD P A G K (⟨some d, .binOp .shl T x y U,R,D,S,none⟩::C) I s H:=
  fC hx c (λg w a b ha hb=>Xi) e
def NP{x y:Operand}{n r:Int}(hx:ev? s x=some (.int k m))(c:ev? s y=some (.int k n))(hn:n≠0)(hr:k.wrap (m.tdiv n)=r)
    (e:AD P A G K C (.pure::I) ((d, .int k r)::s) H):AD P A G K (⟨some d, .binOp .quo T x y U,R,D,S,none⟩::C) I s H:=
  fC hx c (λg w a b ha hb=>Xn) e
def Kh{x y:Operand}{n r:Int}(hx:ev? s x=some (.int k m))(c:ev? s y=some (.int k n))(hn:n≠0)(hr:m.tmod n=r)
    (e:AD P A G K C (.pure::I) ((d, .int k r)::s) H):AD P A G K (⟨some d, .binOp .rem T x y U,R,D,S,none⟩::C) I s H:=
  fC hx c (λg w a b ha hb=>Xn) e
def VQ{x:Operand}(hx:ev? s x=some (.int .u64 m))(hr:m/2=r)
    (a:AD P A G K C (.pure::I) ((d, .int .u64 r)::s) H):AD P A G K (⟨some d, .binOp .shr T x (.const (.int .u64 1)) U,R,D,S,none⟩::C) I s H:=
  Kg hx rfl Wd (by show m.fdiv 2=r;rw[<-hr,Int.fdiv_eq_ediv_of_nonneg _ Wd]) a
def NQ{x y:Operand}{n r:Int}(hx:ev? s x=some (.int .i64 m))(a:ev? s y=some (.int .i64 n))(hr:m * n=r)(hb : -9223372036854775808<=r/\r<=9223372036854775807)
    (b:AD P A G K C (.pure::I) ((d, .int .i64 r)::s) H):AD P A G K (⟨some d, .binOp .mul T x y U,R,D,S,none⟩::C) I s H:=
  aBq hx a XY
def FF{args:List AV}{r:AV}{b:Prop}(O:Ax P f)(ha:aA args=true)(hb:∀(g:Gh) (w:World) (vs:List Value),AM g w args vs->b)(h:b->AN P f args r):AN P f args r:=
  ⟨O,ha,λim w J c a d=>(h (hb _ _ _ d)).2.2 im w J c a d⟩
def Jf{g:Gh}{w:World}{xs:List AV}{t:Tk}(h:Aa g w (.slice xs t) v):xs.length<=maxLen:=by obtain⟨a,cap,sz,Vs,e,b,c,h3,h4,_⟩:=h;have:=h4.length;omega
variable [Lay P]
def Ki{a:TypeDesc}(h:tD a = .int k):a = .int k:=by
  cases a with
  |int b=>simpa [tD]using h
  |_=>simp[tD]at h
def Er{a:TypeDesc}(h:tD a = .string):a = .string:=by
  cases a with
  |string=>rfl
  |_=>simp[tD]at h
def gC{x:Operand}{b:IntKind}{n:Int}{l c:TI}(hT:ty? P T=some l)(f:ty? P U=some c)(hk:c.kind = .int k)(hx:ev? s x=some (.int b n))(hr:k.wrap n=r)
    (j:AD P A G K C (.pure::I) ((d, .int k r)::s) H):AD P A G K (⟨some d, .convert T U x,R,D,S,none⟩::C) I s H:=
  bU rfl (eY λg w a i=>by have e:a.eval x = .int b n:=op1 hx We i;obtain⟨_,p,_,_,t2,_⟩:=(eH hT).ex;obtain⟨_,q,_,_,m,o,_⟩:=(eH f).ex;have h:=Ki (o.trans hk);subst h;refine⟨.int k r, ?_,rfl⟩;subst hr;simp[execOp,Go.convert,e,run_underlying t2,run_underlying m,Result.andThen,Conv.intToInt]) j
def cS{x:Operand}{lo X:Option Operand}{ys:List UInt8}{nl nh:Int}(l h:Nat)(hT:ty? P T=some ti)(hk:ti.kind = .string)(hx:ev? s x=some (.str xs))
    (u:bnd? s lo 0=some nl) (t:bnd? s X xs.length=some nh) (el:nl=(l:Int)) (eh:nh=(h:Int)) (h1:l<=h) (h2:h<=xs.length) (v:(xs.take h).drop l=ys)
    (k:AD P A G K C (.pure::I) ((d, .str ys)::s) H):AD P A G K (⟨some d, .slice T x lo X none,R,D,S,none⟩::C) I s H:=
  bU rfl (eY λg w a q=>by
    have c:a.eval x = .string ⟨xs.toArray⟩:=op1 hx We q
    obtain⟨_,d1,_,_,t2,t3,_⟩:=(eH hT).ex
    have hd:=Er (t3.trans hk)
    subst hd
    have b:(⟨xs.toArray⟩:ByteArray).size=xs.length:=XT
    have f:(⟨xs.toArray⟩:ByteArray).extract l h=⟨ys.toArray⟩:=by
      apply ByteArray.ext
      simp[<-v,List.drop_take]
    refine⟨.string ⟨ys.toArray⟩, ?_,rfl⟩
    have m:∀y,X=some y->(Instr.sliceBound (a.eval y) xs.length .sliceAlen).run P w = .ok h w:=λy e=>by
      subst e;exact nO t eh h2 (q y We)
    have p:∀y,lo=some y->(Instr.sliceBound (a.eval y) h .sliceB).run P w = .ok l w:=λy e=>by
      subst e;exact nO u el h1 (q y (by cases X<;>simp[Op.operands]))
    have h0:lo=none->l=0:=by
      intro n
      subst n
      have:(0:Int)=nl:=Option.some.inj u
      omega
    have j:X=none->h=xs.length:=by
      intro n
      subst n
      have:(xs.length:Int)=nh:=Option.some.inj t
      omega
    cases lo with
    |none=>
      have o:=h0 rfl
      subst o
      cases X with
      |none=>
        have i:=j rfl
        subst i
        have r:xs=ys:=by simpa using v
        simp[execOp,c,Instr.sliceAt,run_underlying t2,Result.andThen,Instr.slice,Instr.sliceBounds,b,r]
      |some y=>
        have:=m y rfl
        simp[execOp,c,Instr.sliceAt,run_underlying t2,Result.andThen,Instr.slice,Instr.sliceBounds,b,f,this]
    |some z=>
      have hz:=p z rfl
      cases X with
      |none=>
        have i:=j rfl
        subst i
        simp[execOp,c,Instr.sliceAt,run_underlying t2,Result.andThen,Instr.slice,Instr.sliceBounds,b,f,hz]
      |some y=>
        have:=m y rfl
        simp[execOp,c,Instr.sliceAt,run_underlying t2,Result.andThen,Instr.slice,Instr.sliceBounds,b,f,hz,this]) k
end
open Go Go.MapKept
def vT(k:List UInt8):List (AV×AV)->Option AV
  |[]=>none
  |(.str s,v)::l=>if s=k then some v else vT k l
  |_::l=>vT k l
def Ci(k:List UInt8)(x:AV):List (AV×AV)->List (AV×AV)
  |[]=>[(.str k,x)]
  |(.str s,v)::l=>if s=k then (.str k,x)::l else (.str s,v)::Ci k x l
  |p::l=>p::Ci k x l
def xM:List (AV×AV)->Bool
  |[]=>true
  |(.str _,_)::l=>xM l
  |_=>false
theorem Kj(a b:List UInt8):((⟨a.toArray⟩:ByteArray)==⟨b.toArray⟩)=decide (a=b):=by rw[Bool.eq_iff_iff,bytes_beq];simp
def FG{g:Gh}{w:World}{k:List UInt8}:∀ {es:List (AV×AV)} {l:List MapEntry} (i:Nat),As g w es l->xM es=true->
    (Instr.findNow .string (.string ⟨k.toArray⟩) l i=some none/\vT k es=none/\∀x,Ci k x es=es++[(.str k,x)])\/
    ∃j e x,Instr.findNow .string (.string ⟨k.toArray⟩) l i=some (some (i+j,e.val))/\l[j]? =some e/\e.key = .string ⟨k.toArray⟩/\vT k es=some x/\Aa g w x e.val/\j<es.length/\∀y,Ci k y es=es.set j (.str k,y)
  |[],_,i,h,_=>by
    rw[show _=[] from h]
    exact .inl ⟨rfl,rfl,λx=>rfl⟩
  |(.str s,v)::es,_,i,⟨e,C,he,f,m,h3⟩,hs=>by
    subst he
    have hk:e.key = .string ⟨s.toArray⟩:=f
    by_cases a:s=k
    · subst a
      refine .inr ⟨0,e,v, ?_,rfl,hk,by simp[vT],m,Wb,λy=>by simp[Ci]⟩
      simp[Instr.findNow,Instr.sameNow,hk,Kj]
    · have hf:Instr.sameNow .string (.string ⟨k.toArray⟩) e.key=some false:=by
        simp[Instr.sameNow,hk,Kj,Ne.symm a]
      rcases FG (k:=k) (i+1) h3 hs with⟨b,c,d⟩|⟨j,e', x,b,c,d,f4,f5,f6,f7⟩
      · exact .inl ⟨by simp[Instr.findNow,hf,b],by simp[vT,a,c],λx=>by simp[Ci,a,d]⟩
      · refine .inr ⟨j+1,e', x, ?_,WA,d,by simp[vT,a,f4],f5,by simpa using f6,λy=>by simp[Ci,a,f7]⟩
        simp[Instr.findNow,hf,b]
        omega
def As.snoc{g:Gh}{w:World}{e:MapEntry}{k v:AV}(hk:Aa g w k e.key)(a:Aa g w v e.val):∀ {es:List (AV×AV)} {l:List MapEntry},As g w es l->As g w (es++[(k,v)]) (l++[e])
  |[],_,h=>by rw[show _=[] from h];exact⟨e,[],rfl,hk,a,rfl⟩
  |(_,_)::es,_,⟨b,C,he,c,d,h3⟩=>by subst he;exact⟨b,_,rfl,c,d,As.snoc hk a h3⟩
theorem As.put{g:Gh}{w:World}{e:MapEntry}{k v:AV}(hk:Aa g w k e.key)(d:Aa g w v e.val):∀ {es:List (AV×AV)} {l:List MapEntry} (j:Nat),As g w es l->As g w (es.set j (k,v)) (l.set j e)
  |[],_,j,h=>by rw[show _=[] from h];simp[As]
  |(_,_)::es,_,0,⟨a,C,he,b,c,h3⟩=>by subst he;exact⟨e,C,rfl,hk,d,h3⟩
  |(_,_)::es,_,j+1,⟨a,C,he,b,c,h3⟩=>by subst he;exact⟨a,_,rfl,b,c,As.put hk d j h3⟩
def Dx(w:World)(b:Nat)(o:Obj):World:={ w with heap:=w.heap.setIfInBounds b o }
theorem pL(w:World){b c:Nat}(h:c≠b)(o:Obj):(Dx w b o).heap[c]? =w.heap[c]? :=by grind[Dx]
def QL(w:World){b:Nat}(h:b<w.heap.size)(o:Obj):(Dx w b o).heap[b]? =some o:=by grind[Dx]
def HU{g:Gh}{H:St}{w:World}(X:Inv g H w){b:Nat}(hb:g.bx[i]? =some b){o:Obj}{ob u:Ob}(n:H.B[i]? =some u)
    (x:∀w', Le g w g w'-> w'.heap[b]? =some o->BJ g w' b ob):Ar g w g (Dx w b o)/\Inv g ⟨H.B.set i ob,H.T⟩ (Dx w b o):=by
  have m:=X.be (mem_of_getElem? hb);have a:=mem_of_getElem? hb;have d:Le g w g (Dx w b o):=⟨λc p h=>by
    have f:c≠b:=λe=>X.noim b a p (e▸h)
    exact⟨h,(cI (pL w f o)).1⟩,λ_ _ h=>h,λk r h=>⟨r,h, .inl rfl⟩⟩
  refine⟨⟨d,by simp[Dx],rfl,rfl,rfl,λc O hn _=>pL w (λe=>hn XP) o,λc p O hn _=>cI (pL w (λe=>hn XP) o),λ_ _ h => .inl h,λ_ h => .inl h,λk r h c p hp => .inr ⟨r,h,hp⟩⟩, ?_⟩;refine⟨by simp[X.lenB],X.lenT,λj c q l h3=> ?_,X.nodup,X.noim,λk t r hk ht=>(X.tok k t r hk ht).mono d λc p hp=>(cI (pL w (λe=>(X.tkz k r hk c p hp).2.1 XP) o)).1,λk r hk c p hp=> ?_,X.tkd,λc p h=>by simpa [Dx]using X.imlt c p h,X.gl.le d⟩
  · by_cases e:j=i
    · subst e;rw[hb]at l;cases l;have hj:j<H.B.length:=(List.getElem?_eq_some_iff.1 n).1;simp only[List.getElem?_set_self hj,Option.some.injEq]at h3;subst h3;exact x _ d (QL w m o)
    · simp only[List.getElem?_set_ne (Ne.symm e)]at h3;have f:c≠b:=by intro v;subst v;have:=(getElem?_inj (List.getElem?_eq_some_iff.1 l).1 X.nodup).1 (l.trans hb.symm);exact e this
      exact(X.ob j c q l h3).mono d (pL w f o)
  · obtain⟨l,h3,h4,y⟩:=X.tkz k r hk c p hp;have f:c≠b:=λe=>h3 (e▸a)
    have O:=cI (o:=p) (pL w f o);simp_all
section
variable {P:Program} {A:Array Oper} {G:Bool} {K:AX->AE->St->Prop} {C:List Oper} {I:List Aj} {s:AE} {H:St}
variable {d:Tmp} {R:TypeId} {D:String} {S:Array Edge}
def Pf{B': List Ob}(X:dN H.B=some i)(h:kP H.B (.map []) some=some B')
    (k:AD P A G K C (.wb::I) ((d, .map i)::s) ⟨B', H.T⟩):AD P A G K (⟨some d, .makeMap T none,R,D,S,none⟩::C) I s H:=by have c:H.B++[.map []]=B':= Option.some.inj (eQ _ _ _ _ h);have e:=dI X;refine bU (t := .wb) (v := .map i) (Y:=⟨B', H.T⟩) rfl ⟨rfl,λτ=> ?_⟩ k;intro g w a next Q f j hn;have b:=Mm f (.map #[] 0) (.map []) (λg' _=>⟨#[],0,rV w _,rfl⟩);rw[<-c]at hn;unfold Oper.wp;refine hn (.map (some w.heap.size)) (dO w (.map #[] 0)) _ b.1 b.2 ⟨w.heap.size, ?_,rfl⟩;rw[<-e,show H.B.length=g.bx.length from f.lenB.symm];simp
variable [Lay P]
def Cj{kt et:TypeId}{x y:Operand}{es:List (AV×AV)}{f:List UInt8}{v:AV}(hT:P.underlying T=some (.map kt et))(r:P.underlying kt=some .string)(hE:ty? P et=some ti)
    (hx:ev? s x=some (.map i)) (hy:ev? s y=some (.str f)) (hB:H.B[i]? =some (.map es)) (hk:xM es=true) (hv:(vT f es).getD ti.zero=v)
    (k:AD P A G K C (.ri i::I) ((d,v)::s) H):AD P A G K (⟨some d, .lookup T x y false,R,D,S,none⟩::C) I s H:=
  bU (t := .ri i) rfl ⟨rfl,λB τ p=>by
    intro g w a next Q q ho hn
    obtain⟨b,hb,e⟩:=op1 hx We ho
    have e2:a.eval y = .string ⟨f.toArray⟩:=op1 hy We ho
    obtain⟨h,n,hh,hr⟩:=q.ob i b _ hb (p.trans hB)
    have m:IsKey .string (.string ⟨f.toArray⟩):=trivial
    obtain⟨z,hz,u,_⟩:=nP hE w
    unfold Oper.wp
    have l:=MapKept.run_checkKey (P:=P) (w:=w) r m h.isEmpty 9999
    rcases FG (k:=f) 0 hr hk with⟨o,f2,f3⟩|⟨j,e0,x0,o,f2,f3,f4,f5,f6,f7⟩
    · have c:(execOp a.eval ⟨some d, .lookup T x y false,R,D,S,none⟩).run P w = .ok (.value z) w:=by
        simp[execOp,e,e2,Instr.lookup,run_underlying hT,MapKept.run_getObj_map hh,l,MapKept.run_findKey r o,hz,Result.andThen]
      rw[c]
      refine hn z w g (eV g w) q ?_
      rw[<-hv,f2]
      rw[<-u]
      exact kM g w z
    · have c:(execOp a.eval ⟨some d, .lookup T x y false,R,D,S,none⟩).run P w = .ok (.value e0.val) w:=by
        simp[execOp,e,e2,Instr.lookup,run_underlying hT,MapKept.run_getObj_map hh,l,MapKept.run_findKey r o,Result.andThen]
      rw[c]
      refine hn e0.val w g (eV g w) q ?_
      rw[<-hv,f4]
      exact f5⟩ k
def vU{kt et:TypeId}{x y z:Operand}{es:List (AV×AV)}{key:List UInt8}{v:AV}{B': List Ob}(hT:P.underlying T=some (.map kt et))(hK:P.underlying kt=some .string)
    (hx:ev? s x=some (.map i)) (hy:ev? s y=some (.str key)) (hz:ev? s z=some v) (hB:H.B[i]? =some (.map es)) (hk:xM es=true) (a6:H.B.set i (.map (Ci key v es))=B')
    (k:AD P A G K C (.wi i::I) s ⟨B', H.T⟩):AD P A G K (⟨none, .mapUpdate T x y z,R,D,S,none⟩::C) I s H:=by
  refine bU (t := .wi i) (v := .undef) (Y:=⟨B', H.T⟩) rfl ⟨.map (Ci key v es),by rw[a6],λB τ m=> ?_⟩ k;intro g w a next Q hI ho hn;obtain⟨b,hb,e⟩:=op1 hx We ho;have e2:a.eval y = .string ⟨key.toArray⟩:=op1 hy We ho;have e3:=op1 hz We ho;obtain⟨d,c,hh,hr⟩:=hI.ob i b _ hb (m.trans hB);have l:IsKey .string (.string ⟨key.toArray⟩):=trivial;have r:=MapKept.run_checkKey (P:=P) (w:=w) hK l false 9999;unfold Oper.wp;rcases FG (k:=key) 0 hr hk with⟨f1,f2,f3⟩|⟨j,e0,x0,f1,f2,f3,f4,f5,f6,f7⟩
  · have h:(execOp a.eval ⟨none, .mapUpdate T x y z,R,D,S,none⟩).run P w = .ok .skip (Dx w b (.map (d.push ⟨.string ⟨key.toArray⟩,a.eval z,c⟩) (c+1))):=by simp[execOp,e,e2,Instr.mapUpdate,run_underlying hT,MapKept.run_getObj_map hh,r,MapKept.run_findKey hK f1,MapKept.run_setObj_map _ hh,Result.andThen,Dx]
    rw[h];obtain⟨n1,n2⟩:=HU hI hb (o := .map (d.push ⟨.string ⟨key.toArray⟩,a.eval z,c⟩) (c+1)) (ob := .map (Ci key v es)) (m.trans hB) (λw' f n=>by refine⟨_,_,n, ?_⟩;rw[f3,Array.toList_push];exact As.snoc (e:=⟨.string ⟨key.toArray⟩,a.eval z,c⟩) (k:=AV.str key) (show _=_ from rfl) (Aa.mono f _ _ e3) (As.mono f _ _ hr))
    exact hn undef _ g n1 n2 trivial
  · have hj:d[j]? =some e0:=by simpa using f2
    have h:(execOp a.eval ⟨none, .mapUpdate T x y z,R,D,S,none⟩).run P w = .ok .skip (Dx w b (.map (d.modify j λp=>{ p with key := .string ⟨key.toArray⟩,val:=a.eval z }) c)):=by simp[execOp,e,e2,Instr.mapUpdate,run_underlying hT,MapKept.run_getObj_map hh,r,MapKept.run_findKey hK f1,hj,f3,MapKept.run_keyThatStays l,MapKept.run_setObj_map _ hh,Result.andThen,Dx]
    rw[h];obtain⟨n1,n2⟩:=HU hI hb (o := .map (d.modify j λp=>{ p with key := .string ⟨key.toArray⟩,val:=a.eval z }) c) (ob := .map (Ci key v es)) (m.trans hB) (λw' f n=>by
      refine⟨_,_,n, ?_⟩;have a1:(d.modify j λp=>{ p with key := .string ⟨key.toArray⟩,val:=a.eval z }).toList=d.toList.set j { e0 with key := .string ⟨key.toArray⟩,val:=a.eval z }:=by
        apply List.ext_getElem?;intro q;simp only[getElem?_toList,Array.getElem?_modify,List.getElem?_set];by_cases hq:j=q
        · subst hq
          have u:=(Array.getElem?_eq_some_iff.1 hj).1;have a0:j<d.toList.length:=by simpa using u
          simp[a0,u];rw[(Array.getElem?_eq_some_iff.1 hj).2]
        · simp[hq]
      rw[f7,a1];exact As.put (e:={ e0 with key := .string ⟨key.toArray⟩,val:=a.eval z }) (k:=AV.str key) (show _=_ from rfl) (Aa.mono f _ _ e3) j (As.mono f _ _ hr))
    exact hn undef _ g n1 n2 trivial
end
section
variable {P:Program} [Lay P] {A:Array Oper} {G:Bool} {K:AX->AE->St->Prop} {C:List Oper} {I:List Aj} {s:AE} {H:St}
variable {d:Tmp} {R:TypeId} {D:String} {S:Array Edge}
def QJ(P:Program)[Lay P](T:TypeId):BinOp->AV->AV->Option AV
  | .lss, .int k m, .int k' n=>match decEq k k' with|isTrue _=>some (.bool (decide (m<n)))|isFalse _=>none
  | .leq, .int k m, .int k' n=>match decEq k k' with|isTrue _=>some (.bool (decide (m<=n)))|isFalse _=>none
  | .gtr, .int k m, .int k' n=>match decEq k k' with|isTrue _=>some (.bool (decide (n<m)))|isFalse _=>none
  | .geq, .int k m, .int k' n=>match decEq k k' with|isTrue _=>some (.bool (decide (n<=m)))|isFalse _=>none
  | .eql, .int k m, .int k' n=>match decEq k k' with|isTrue _=>some (.bool (m==n))|isFalse _=>none
  | .neq, .int k m, .int k' n=>match decEq k k' with|isTrue _=>some (.bool (m != n))|isFalse _=>none
  | .eql, .str m, .str n=>some (.bool (m==n))
  | .neq, .str m, .str n=>some (.bool (m != n))
  | .lss, .str m, .str n=>some (.bool (nG m n))
  | .gtr, .str m, .str n=>some (.bool (!(nG m n||m==n)))
  | .leq, .str m, .str n=>some (.bool (nG m n||m==n))
  | .geq, .str m, .str n=>some (.bool (!nG m n))
  | .eql, .bool m, .bool n=>match ty? P T with|some ti=>(match ti.kind with | .bool=>some (.bool (m==n))|_=>none)|none=>none
  | .neq, .bool m, .bool n=>match ty? P T with|some ti=>(match ti.kind with | .bool=>some (.bool (m != n))|_=>none)|none=>none
  |_,_,_=>none
def Tv{f:BinOp}{x y:Operand}{a b v:AV}(hx:ev? s x=some a)(c:ev? s y=some b)(h:Av.QJ P T f a b=some v)(k:AD P A G K C (.pure::I) ((d,v)::s) H):
    AD P A G K (⟨some d, .binOp f T x y U,R,D,S,none⟩::C) I s H:=by
  unfold Av.QJ at h;split at h
  · split at h<;>cases h;rename_i e _;subst e;exact aBr hx c k
  · split at h<;>cases h;rename_i e _;subst e;exact aBs hx c k
  · split at h<;>cases h;rename_i e _;subst e;exact aBt hx c k
  · split at h<;>cases h;rename_i e _;subst e;exact aBu hx c k
  · split at h<;>cases h;rename_i e _;subst e;exact aBv hx c k
  · split at h<;>cases h;rename_i e _;subst e;exact aBw hx c k
  · cases h;exact aBx hx c k
  · cases h;exact aBy hx c k
  · cases h;exact aBz hx c k
  · cases h;exact aCA hx c k
  · cases h;exact aCB hx c k
  · cases h;exact aCC hx c k
  · split at h
    · rename_i g hT;split at h<;>cases h
      exact aBl hT ‹_› hx c k
    · cases h
  · split at h
    · rename_i g hT;split at h<;>cases h
      exact aBm hT ‹_› hx c k
    · cases h
  · cases h
def pv(P:Program)[Lay P](s:AE):Op->Option AV
  | .move x=>ev? s x
  | .assign x=>ev? s x
  | .load T x=>match ev? s x with
    |some (.ac y)=>(match ty? P T with|some ti=>bif fits ti.agg ti.size y then some y else none|none=>none)
    |_=>none
  | .fieldAddr T x f=>match ty? P T with
    |none=>none
    |some ti=>match ti.kind with
      | .struct=>(match ti.fields[f]? with
        |some (o,n,ag)=>(match ev? s x with
          |some (.ac (.agg cs))=>bif Nat.blt 0 n then (match cut ag n o cs with|some y=>some (.ac y)|none=>none) else none
          |some (.ptr i off)=>bif Nat.blt 0 n then some (.ptr i (off+o)) else none
          |some (.ao k z nn j off)=>bif Nat.blt 0 n then some (.ao k z nn j (off+o)) else none
          |_=>none)
        |none=>none)
      |_=>none
  | .field T x f=>match ty? P T with
    |none=>none
    |some ti=>match ti.kind with
      | .struct=>(match ti.fields[f]? with
        |some (o,n,ag)=>(match ev? s x with|some (.agg cs)=>cut ag n o cs|_=>none)
        |none=>none)
      |_=>none
  | .binOp op T x y _=>match ev? s x with
    |some a=>(match ev? s y with|some b=>QJ P T op a b|none=>none)
    |none=>none
  | .unOp .not _ x=>match ev? s x with|some (.bool b)=>some (.bool (!b))|_=>none
  | .extract x i=>match ev? s x with|some (.tup vs)=>vs[i]? |_=>none
  | .build T parts=>match ty? P T with
    |none=>none
    |some ti=>match ti.kind with
      | .struct=>(match ti.zero with | .agg zs=>Eg (I4 ti.fields) s parts.toList zs (λcs=>some (.agg cs))|_=>none)
      |_=>none
  | .buildSlice T len parts=>match ty? P T with
    |none=>none
    |some ti=>match ti.kind with
      | .slice=>(match ty? P ti.elem with
        |some te=>bif (te.agg||Nat.beq te.size 1)&&Nat.ble (len * te.size) 16777216&&Nat.ble len 16777216 then
            Eg (λi=>some (i * te.size,te.size)) s parts.toList (List.replicate (len * te.size) .undef) (λcs=>Dt te.agg te.size len cs λxs=>some (.slice xs .full)) else none
        |none=>none)
      |_=>none
  | .makeInterface T x=>match ty? P T with
    |none=>none
    |some ti=>match ti.kind with
      | .iface=>none
      |_=>(match ev? s x with|some v=>some (.iface T v)|none=>none)
  |_=>none
def vR{α:Type}{x:Option α}{y:α}(h:(bif b then x else none)=some y):b=true/\x=some y:=WZ
def aDf{c:Op}{v:AV}(h:Av.pv P s c=some v)(k:AD P A G K C (.pure::I) ((d,v)::s) H):AD P A G K (⟨some d,c,R,D,S,none⟩::C) I s H:=by
  unfold Av.pv at h;split at h
  · exact VS h k
  · exact QN h k
  · split at h
    · rename_i hx;split at h
      · rename_i hT;obtain⟨a,b⟩:=vR h;cases b;exact Q0 hT hx a k
      · cases h
    · cases h
  · split at h
    · cases h
    · rename_i hT;split at h
      · rename_i hk;split at h
        · rename_i hf;split at h
          · rename_i hx;obtain⟨a,b⟩:=vR h;split at b
            · cases b;exact Pm hT hx hf hk a ‹_› k
            · cases b
          · rename_i hx;obtain⟨a,b⟩:=vR h;cases b;exact Pk hT hx hf hk a rfl k
          · rename_i hx;obtain⟨a,b⟩:=vR h;cases b;exact j4 hT hx hf hk a rfl k
          · cases h
        · cases h
      · cases h
  · split at h
    · cases h
    · rename_i hT;split at h
      · rename_i hk;split at h
        · rename_i hf;split at h
          · rename_i hx;exact TD hT hx hf hk h k
          · cases h
        · cases h
      · cases h
  · split at h
    · rename_i hx;split at h
      · rename_i f;exact Tv hx f h k
      · cases h
    · cases h
  · split at h
    · rename_i hx;cases h;exact aBp hx k
    · cases h
  · split at h
    · rename_i hx;exact Pc hx h k
    · cases h
  · split at h
    · cases h
    · rename_i hT;split at h
      · rename_i hk;split at h
        · rename_i hz;exact Tq hT hk hz h k
        · cases h
      · cases h
  · split at h
    · cases h
    · rename_i hT;split at h
      · rename_i hk;split at h
        · rename_i hE;obtain⟨a,b⟩:=vR h;simp only[and_eq_true]at a;exact I5 hT hk hE a.1.1 a.1.2 a.2 b k
        · cases h
      · cases h
  · split at h
    · cases h
    · rename_i hT;split at h
      · cases h
      · rename_i hk;split at h
        · rename_i hx;cases h;exact Eu hT (λe=>hk e) hx k
        · cases h
  · cases h
def AD.lb{x:Operand}{a:Nat}{cs:List AV}{v:AV}(k:AD P A G K C (.ri i::I) ((d,v)::s) H)(hT:ty? P T=some ti:=by exact rfl)(hx:ev? s x=some (.ptr i a):=by exact rfl)(b:H.B[i]? =some (.cells cs):=by exact rfl)(c:cut ti.agg ti.size a cs=some v:=by exact rfl):
 AD P A G K (⟨some d, .load T x,R,D,S,none⟩::C) I s H:=Q3 hT hx b c k
def AD.ln{x:Operand}{xs:List AV}{tk:Tk}{n:Int}(k:AD P A G K C (.pure::I) ((d, .int .i64 n)::s) H)(hT:ty? P T=some ti:=by exact rfl)(hk:ti.kind = .slice:=by exact rfl)(hx:ev? s x=some (.slice xs tk):=by exact rfl)(hn:(xs.length:Int)=n:=by first|rw[List.length_map]|exact rfl):
 AD P A G K (⟨some d, .call ⟨.builtin .len, #[x], #[T]⟩,R,D,S,none⟩::C) I s H:=NX hT hk hx hn k
def AD.ls{x:Operand}{n:Int}(k:AD P A G K C (.pure::I) ((d, .int .i64 n)::s) H)(hT:ty? P T=some ti:=by exact rfl)(hk:ti.kind = .string:=by exact rfl)(hx:ev? s x=some (.str xs):=by exact rfl)(hn:(xs.length:Int)=n:=by exact rfl):
 AD P A G K (⟨some d, .call ⟨.builtin .len, #[x], #[T]⟩,R,D,S,none⟩::C) I s H:=VT hT hk hx hn k
def AD.vl{x:Operand}{k b lo X:Nat}{n:Int}(a:AD P A G K C (.pure::I) ((d, .int .i64 n)::s) H)(hT:ty? P T=some ti:=by exact rfl)(hk:ti.kind = .slice:=by exact rfl)(hx:ev? s x=some (.aa k z b lo X):=by exact rfl)(hn:((X-lo:Nat):Int)=n:=by exact rfl):
 AD P A G K (⟨some d, .call ⟨.builtin .len, #[x], #[T]⟩,R,D,S,none⟩::C) I s H:=jE hT hk hx hn a
def AD.ix{x i:Operand}{xs:List AV}{tk:Tk}{b:IntKind}{n:Int}{j:Nat}{y:AV}{te:TI}(k:AD P A G K C (.pure::I) ((d, .ac y)::s) H)(hT:ty? P T=some ti:=by exact rfl)(hk:ti.kind = .slice:=by exact rfl)(hE:ty? P ti.elem=some te:=by exact rfl)(hx:ev? s x=some (.slice xs tk):=by exact rfl)(X:ev? s i=some (.int b n):=by exact rfl)(hj:n=(j:Int):=by exact rfl)(a:xs[j]? =some y:=by assumption)(hf:fits te.agg te.size y=true:=by exact rfl):
 AD P A G K (⟨some d, .indexAddr T x i,R,D,S,none⟩::C) I s H:=HZ hT hk hE hx X hj a hf k
theorem AD.pt{c x y:Operand}{v:AV}(k:AD P A G K C (.pure::I) ((d,v)::s) H)(O:ev? s c=some (.bool b):=by exact rfl)(hb:b=true:=by first|exact rfl|assumption)(h:ev? s x=some v:=by exact rfl):
 AD P A G K (⟨some d, .pick c x y,R,D,S,none⟩::C) I s H:=Kk O hb h k
def AD.pf{c x y:Operand}{v:AV}(k:AD P A G K C (.pure::I) ((d,v)::s) H)(O:ev? s c=some (.bool b):=by exact rfl)(hb:b=false:=by first|exact rfl|assumption)(h:ev? s y=some v:=by exact rfl):
 AD P A G K (⟨some d, .pick c x y,R,D,S,none⟩::C) I s H:=Jh O hb h k
theorem AD.bx{x:Operand}{v:AV}{B': List Ob}(k:AD P A G K C (.wb::I) ((d, .ptr i 0)::s) ⟨B', H.T⟩)(hx:ev? s x=some v:=by exact rfl)(X:dN H.B=some i:=by exact rfl)(a:kO v (λcs=>kP H.B (.cells cs) some)=some B':= by exact rfl):
 AD P A G K (⟨some d, .box T x,R,D,S,none⟩::C) I s H:=aCD hx X a k
def AD.br{x:Operand}{v:AV}(k:AD P A G K C (.pure::I) ((d, .ac v)::s) H)(hx:ev? s x=some v:=by exact rfl)(O:kO v (λ_=>some ())=some ():=by exact rfl):
 AD P A G K (⟨some d, .box T x,R,D,S,none⟩::C) I s H:=cW hx O k
theorem AD.al{B': List Ob}(k:AD P A G K C (.wb::I) ((d, .ptr i 0)::s) ⟨B', H.T⟩)(hT:ty? P T=some ti:=by exact rfl)(X:dN H.B=some i:=by exact rfl)(a:kO ti.zero (λcs=>kP H.B (.cells cs) some)=some B':= by exact rfl):
 AD P A G K (⟨some d, .alloc T,R,D,S,none⟩::C) I s H:=TE hT X a k
theorem AD.st{x y:Operand}{a:Nat}{v:AV}{B': List Ob}(k:AD P A G K C (.wi i::I) s ⟨B', H.T⟩)(hT:ty? P T=some ti:=by exact rfl)(hx:ev? s x=some (.ptr i a):=by exact rfl)(d:ev? s y=some v:=by exact rfl)(hf:fits ti.agg ti.size v=true:=by exact rfl)(c:Tz i H.B (λo k=>match o with | .cells cs=>kO v (λvs=>Ck a vs cs (λb=>k (.cells b)))|_=>none) some=some B':= by exact rfl):
 AD P A G K (⟨none, .store T x y,R,D,S,none⟩::C) I s H:=TF hT hx d hf c k
theorem AD.ad{x y:Operand}{n r:Int}(b:AD P A G K C (.pure::I) ((d, .int .i64 r)::s) H)(hx:ev? s x=some (.int .i64 m):=by exact rfl)(a:ev? s y=some (.int .i64 n):=by exact rfl)(hr:m+n=r:=by exact rfl)(hb : -9223372036854775808<=r/\r<=9223372036854775807:=by omega):
 AD P A G K (⟨some d, .binOp .add T x y U,R,D,S,none⟩::C) I s H:=Ty hx a hr hb b
theorem AD.sb{x y:Operand}{n r:Int}(b:AD P A G K C (.pure::I) ((d, .int .i64 r)::s) H)(hx:ev? s x=some (.int .i64 m):=by exact rfl)(a:ev? s y=some (.int .i64 n):=by exact rfl)(hr:m-n=r:=by exact rfl)(hb : -9223372036854775808<=r/\r<=9223372036854775807:=by omega):
 AD P A G K (⟨some d, .binOp .sub T x y U,R,D,S,none⟩::C) I s H:=tF hx a hr hb b
theorem AD.nl(k:K .normal s H)(h:G=true->xJ A I.reverse=true:=by exact fun _=>rfl):
 AD P A G K [] I s H:=aBn h k
def AD.dd{b:Op}{j:Nat}{a:Bool}(k:AD P A G K C (.pure::I) (iG dst (.tup []) s) H)(h:yv A s j=some (.tup []):=by exact rfl):
 AD P A G K (⟨dst,b,R,D,S,some (j,a)⟩::C) I s H:=VR h k
theorem AD.ys{j:Nat}{want b:Bool}(k:AD P A G K (⟨dst,a,R,D,S,none⟩::C) I s H)(h:yv A s j=some (.bool b):=by exact rfl)(hb:b=want:=by first|exact rfl|assumption):
 AD P A G K (⟨dst,a,R,D,S,some (j,want)⟩::C) I s H:=Vh h hb k
theorem AD.no{c:Op}{j:Nat}{a b:Bool}(k:AD P A G K C (.pure::I) (iG dst (.tup []) s) H)(h:yv A s j=some (.bool b):=by exact rfl)(hb:b = !a:=by first|exact rfl|assumption):
 AD P A G K (⟨dst,c,R,D,S,some (j,a)⟩::C) I s H:=aBo h hb k
theorem AD.pv{v:AV}(k:AD P A G K C (.pure::I) ((d,v)::s) H)(h:Av.pv P s a=some v:=by exact rfl):
 AD P A G K (⟨some d,a,R,D,S,none⟩::C) I s H:=aDf h k
theorem AD.is{x i:Operand}{b:IntKind}{n:Int}{j:Nat}{y:UInt8}(k:AD P A G K C (.pure::I) ((d, .int .u8 (y.toNat:Int))::s) H)(hT:ty? P T=some ti:=by exact rfl)(hk:ti.kind = .string:=by exact rfl)(hx:ev? s x=some (.str xs):=by exact rfl)(X:ev? s i=some (.int b n):=by exact rfl)(hj:n=(j:Int):=by exact rfl)(a:xs[j]? =some y:=by assumption):
 AD P A G K (⟨some d, .index T x i,R,D,S,none⟩::C) I s H:=bL hT hk hx X hj a k
theorem AD.cl{a:Option Tmp}{J:List AV}{r:AV}(k:AD P A G K C (.pure::I) (iG a r s) H)(ha:jZ s args.toList some=some J:=by exact rfl)(hp:AN P f J r:=by assumption):
    AD P A G K (⟨a, .call ⟨.value (.func f),args,p⟩,R,D,S,none⟩::C) I s H:=aH ha hp (aB _) k
def AD.ck{a:Option Tmp}{J vals': List AV}{r:AV}(k:AD P A G K C (.pure::I) (iG a r s) H)(ha:jZ s args.toList some=some J:=by exact rfl)(hp:AN P f vals' r:=by assumption)
    (hw:AA J vals':= by first|((repeat' first|exact aB _|refine AA.cons (aG _) ?_|refine AA.cons (AC.no (aB _)) ?_);done)|fail):
    AD P A G K (⟨a, .call ⟨.value (.func f),args,p⟩,R,D,S,none⟩::C) I s H:=aH ha hp hw k
def AD.mf{fn:Fn}{first cap:Array Operand}{fs cs:List AV}(k:AD P A G K C (.pure::I) ((d, .fn fn fs cs)::s) H)(hf:jZ s first.toList some=some fs:=by exact rfl)(O:jZ s cap.toList some=some cs:=by exact rfl):
    AD P A G K (⟨some d, .makeFunc fn first cap,R,D,S,none⟩::C) I s H:=tA hf O k
def AD.cw{a:Option Tmp}{x:Operand}{b cs J:List AV}{r:AV}(k:AD P A G K C (.pure::I) (iG a r s) H)(hx:ev? s x=some (.fn (.func f) b cs):=by exact rfl)(ha:jZ s args.toList some=some J:=by exact rfl)
    (hp:AN P f (b++J++cs) r:=by assumption):AD P A G K (⟨a, .call ⟨.value x,args,p⟩,R,D,S,none⟩::C) I s H:=Jc hx ha hp (aB _) k
section
variable {N:Nat} {D:List Deferred}
def AB.rg{id:Nat}{a:Array Oper}(h:AD P a false K a.toList [] s H)(b:Cf N a.toList=true:=by exact rfl):
 AB P N D (.region id a false) K s H:=AB.region b h
def AB.rd{id:Nat}{a:Array Oper}(h:AD P a true K a.toList [] s H)(b:P.follows .mixedOrders=true:=by exact Lay.c0)(c:Cf N a.toList=true:=by exact rfl):
 AB P N D (.region id a true) K s H:=vJ b c h
def AB.ct{c:Operand}(h:AB P N D x K s H)(O:ev s c = .bool true:=by exact rfl):
 AB P N D (.cond c x y) K s H:=pC O h
def AB.cf{c:Operand}(h:AB P N D y K s H)(O:ev s c = .bool false:=by exact rfl):
 AB P N D (.cond c x y) K s H:=oA O h
def AB.cy{c:Operand}(h:AB P N D x K s H)(O:ev s c = .bool b:=by exact rfl)(hb:b=true:=by assumption):
 AB P N D (.cond c x y) K s H:=J8 O hb h
def AB.cn{c:Operand}(h:AB P N D y K s H)(O:ev s c = .bool b:=by exact rfl)(hb:b=false:=by assumption):
 AB P N D (.cond c x y) K s H:=L6 O hb h
end
def bK{N:Nat}{D:List Deferred}{c:Code}(N0:Nat)(S:Nat->AE)(Z:Nat->St)(J:Nat->Prop)(hs:Sub (S 0) s)(hz:Z 0=H)(hj:J 0)
    (a:∀k,k<=N0->J k->AB P N D c (thn (λs' Y=>k<N0/\Sub (S (k+1)) s'/\ aM H.B.length H.T.length (S (k+1))=true/\
      (aQ H.B.length H.T.length (Y.B.take H.B.length)&&aL H.B.length H.T.length (Y.T.take H.T.length))=true/\(⟨Y.B.take H.B.length,Y.T.take H.T.length⟩:St)=Z (k+1)/\J (k+1)) K) (S k) (Z k)):
    AB P N D (.loop c) K s H:=by
  refine AB.loop (λn d b=>∃k,n=N0-k/\k<=N0/\J k/\d=S k/\b=Z k) (n:=N0) hs ⟨0,rfl,zero_le _,hj,rfl,hz.symm⟩ ?_;rintro n d b ⟨k,rfl,hk,hJ,rfl,rfl⟩;refine(a k hk hJ).mono ?_;intro e s' Y h;cases e with
  |normal=>obtain⟨f,g,h3,h4,i,j⟩:=h;exact⟨N0-(k+1),om,S (k+1),g,h3,h4,k+1,rfl,f,j,rfl,i⟩
  |exit id=>exact h
  |goto l=>exact h
  |ret=>exact h
  |pan x=>exact h
end
def HT(P:Program):TypeDesc->Bool
  | .struct fs=>fs.toList.all λf=>(P.info? f.type).isSome&&(P.underlying f.type).isSome
  |_=>true
def FD{P:Program}{t:TypeId}{d:TypeDesc}(z:Value)(a:(P.info? t).map (λi=>(i.size,i.bytes,i.zero))=some (ti.size,ti.bytes,some z))(g:P.underlying t=some d)(h3:tD d=ti.kind)(h4:Jg d=ti.elem)
    (h:Dy d=ti.agg) (j:qL z=ti.zero) (k:z.cells.size=ti.size) (l:oD P d=ti.fields) (m:(z.cells.toList.all λv=>v.oneCell')=true) (c:HT P d=true):CD P t ti:=by
  cases X:P.info? t with
  |none=>rw[X]at a;cases a
  |some b=>rw[X]at a;simp only[Option.map_some,Option.some.injEq,Prod.mk.injEq]at a;refine⟨⟨b,d,z,X,g,h3,h4,h,a.1,a.2.1,a.2.2,j,k,l,m,λn e f hf=> ?_⟩⟩;subst e;have:=List.all_eq_true.1 c f hf;simp_all
open Go Go.RowKit Go.ChangeShapes Go.WideShapes Go.ChangeAt
mutual
def yY{H:Type}:DataW H->Nat
  | .lit (.string bytes)=>bytes.length+1
  | .lit _=>1
  | .nil=>1
  | .ptr d=>yY d+1
  | .slice elems spare=>oC elems+oC spare+1
  | .agg parts=>oC parts+1
  | .iface _ d=>yY d+1
  | .map entries=>En entries+1
  | .held _=>1
def oC{H:Type}:List (DataW H)->Nat
  |[]=>0
  |d::r=>yY d+oC r
def En{H:Type}:List (Lit×DataW H)->Nat
  |[]=>0
  |x::r=>Pd x+En r
def Pd{H:Type}:Lit×DataW H->Nat
  |(.string bytes,d)=>bytes.length+yY d+1
  |(_,d)=>yY d+1
end
def old(w:World):Gh:=⟨[],[],λb _=>b<w.heap.size⟩
def rS(agg:Bool)(cs:List Value):Value:=if agg then .agg cs.toArray else cs.headD undef
def AQ(P:Program)(n:Nat)(t:TypeId)(agg:Bool){α:Type}(enc:α->AV)(size:α->Nat)(ok:α->Prop):Prop:=
  ∀(H:Type) (eh:TypeId×Value->H) (w:World) (fuel:Nat) (cs:List Value) (d:DataW H) (ps:List MemPlace),fuel<=n->DataW.trod eh P w 0 (λ_=>true) true fuel t cs=some (d,ps)->
    ∃x:α,Aa (old w) w (enc x) (rS agg cs)/\(rS agg cs).cells.toList=cs/\(∀u∈cs,u.oneCell'= true)/\size x<=yY d/\ok x
section
variable {P:Program} {n:Nat}
theorem AQ.int{t:TypeId}(ht:P.underlying t=some (.int k)):AQ P n t false (λx:Int => .int k x) (λ_=>1) (λx=>(Lit.int k x).wf=true):=by intro H eh w b cs d ps _ h;obtain⟨m,rfl,hx,a⟩:=DataW.trod_int ht h;cases hx;exact⟨m,rfl,rfl,XS,by simp[yY],a⟩
theorem AQ.bool{t:TypeId}(ht:P.underlying t=some .bool):AQ P n t false (λx:Bool => .bool x) (λ_=>1) (λ_=>True):=by intro H eh w a cs d ps _ h;obtain⟨b,rfl,hx⟩:=DataW.trod_bool ht h;cases hx;exact⟨b,rfl,rfl,XS,by simp[yY],trivial⟩
def AQ.string{t:TypeId}(ht:P.underlying t=some .string):AQ P n t false (λx:List UInt8 => .str x) (λx=>x.length+1) (λ_=>True):=by intro H eh w a cs d ps _ h;obtain⟨s,rfl,hx,hs⟩:=DataW.trod_string ht h;cases hx;refine⟨s.data.toList, ?_,rfl,XS,by simp[yY],trivial⟩;show Value.string s = .string ⟨s.data.toList.toArray⟩;simp
def Eo{α:Type}{p:Nat->α->Prop}:∀n:Nat,(∀i,i<n->∃x,p i x)->∃l:List α,l.length=n/\∀(i:Nat) (x:α),l[i]? =some x->p i x
  |0,_=>⟨[],rfl,λi x h=>Wp⟩
  |n+1,h=>by
    obtain⟨l,a,b⟩:=Eo n λi X=>h i om
    obtain⟨x,hx⟩:=h n om;refine⟨l++[x],Ww,λi y c=> ?_⟩;grind
def aC{α:Type}(size:α->Nat):List α->Nat
  |[]=>0
  |x::l=>size x+aC size l
def aN{α:Type}{size:α->Nat}{x:α}{l:List α}(h:x∈l):size x<=aC size l:=by
  induction l with
  |nil=>cases h
  |cons y r E=>
    simp only[aC];cases List.mem_cons.1 h with
    |inl e=>subst e;omega
    |inr e=>have:=E e;omega
def aJ{α:Type}{size:α->Nat}(a:∀x,1<=size x):∀l:List α,l.length<=aC size l
  |[]=>zero_le _
  |x::l=>by have:=a x;have:=aJ a l;simp only[aC,List.length_cons];omega
def FE{α H:Type}{size:α->Nat}:∀(l:List α) (a:List (DataW H)),l.length=a.length->(∀(i:Nat) (x:α) (d:DataW H),l[i]? =some x->a[i]? =some d->size x<=yY d)->aC size l<=oC a
  |[],_,_,_=>zero_le _
  |x::l,[],h,_=>by simp at h
  |x::l,d::a,h,b=>by
    have f:=b 0 x d rfl rfl;have g:=FE l a Wu λi y e c he=>b (i+1) y e WA (by simpa using he)
    simp only[aC,oC];omega
def Ep{g:Gh}{w:World}:∀(xs:List AV) (Vs:List Value),xs.length=Vs.length->(∀(i:Nat) (x:AV) (V:Value),xs[i]? =some x->Vs[i]? =some V->Aa g w x V)->AM g w xs Vs
  |[],[],_,_=>rfl
  |[],_::_,h,_=>by simp at h
  |_::_,[],h,_=>by simp at h
  |x::xs,V::Vs,h,a=>⟨V,Vs,rfl,a 0 x V rfl rfl,Ep xs Vs Wu λi y u c b=>a (i+1) y u WA Yj⟩
theorem AQ.slice{t e:TypeId}{agg:Bool}{α:Type}{a2:α->AV}{size:α->Nat}{ok:α->Prop}{c:Nat}(ht:P.underlying t=some (.slice e))(O:P.cellsOf e=c)(af:0<c)(h:AQ P n e agg a2 size ok):
    AQ P (n+1) t false (λl:List α => .slice (l.map a2) .no) (λl=>aC size l+1) (λl=>∀x∈l,ok x):=by
  have he:0<P.cellsOf e:=by rw[O];exact af
  intro H eh w am cs d ps aq hd;rcases DataW.trod_slice ht hd with⟨rfl,hx⟩|⟨a,len,cap,elems,rs,m,rfl,rfl,hx,h1,h2,h3,h4,h5,_⟩
  · cases hx;refine⟨[],⟨none,0,0,[],rfl,Nat.le_refl _,by simp[maxLen],trivial,rfl,λ_=>⟨rfl,rfl⟩,λp hp=>Xz⟩,rfl,XS,by simp[yY,aC],Wb⟩
  · cases hx;have ag:∀i,i<len->∃(p:α×List Value),(∀j,j<P.cellsOf e->∃v,p.2[j]? =some v/\w.cell? ((a.add (i * P.cellsOf e)).add j)=some v)/\p.2.length=P.cellsOf e/\Aa (old w) w (a2 p.1) (rS agg p.2)/\(rS agg p.2).cells.toList=p.2/\
        (∀u∈p.2,u.oneCell'= true)/\(∀y,elems[i]? =some y->size p.1<=yY y.1)/\ok p.1:=by
      intro i X;have a6:=h5 i X;have a8:i<elems.length:=om
      rw[getElem?_eq_getElem a8]at a6;obtain⟨a0,b,hy⟩:=bind_eq_some_iff.1 a6;unfold World.cells? at b;split at b;case isFalse=>cases b
      have f:=mapM_some_length b;have a3:=λj (hj:j<P.cellsOf e)=>mapM_some_get b j j (by simp[hj])
      obtain⟨x,r1,r2,r3,r4,r5⟩:=h H eh w m a0 elems[i].1 elems[i].2 om hy;refine⟨(x,a0),λj hj=> ?_,Yg,r1,r2,r3,λy ac=> ?_,r5⟩
      · have a7:j<a0.length:=by simp at f;omega
        exact⟨a0[j],getElem?_eq_getElem a7,by rw[a3 j hj,getElem?_eq_getElem a7]⟩
      · rw[getElem?_eq_getElem a8]at ac;cases ac;exact r4
    obtain⟨l,hl,g⟩:=Eo len ag;have k:a.spot=none\/l=[]:=by
      rcases Nat.eq_zero_or_pos len with e0|e0
      · right;exact List.eq_nil_of_length_eq_zero om
      · left;have aj:0<l.length:=om
        obtain⟨v,_,hv⟩:=(g 0 _ (getElem?_eq_getElem aj)).1 0 he;simp only[Nat.zero_mul]at hv;unfold Addr.add World.cell? at hv;simp only[if_true]at hv;cases hs:a.spot with
        |none=>rfl
        |some s=>simp only[hs,Option.isSome_some,if_true]at hv;split at hv<;>cases hv
    refine⟨l.map (·.1),⟨some a,cap,P.cellsOf e,l.map λp=>rS agg p.2,by simp[hl,rS],by simpa [hl]using h2,h3,trivial, ?_,(λh=>W0),λp hp=> ?_⟩,rfl,XS, ?_, ?_⟩
    · refine Ep _ _ Wb λi x V hx hV=> ?_
      simp only[getElem?_map,map_eq_some_iff]at hx hV;obtain⟨x', ⟨q,r,rfl⟩,rfl⟩:=hx;obtain⟨q', a9,rfl⟩:=hV;rw[r]at a9;cases a9;exact(g i q r).2.2.1
    · cases hp;refine⟨k.imp id λe=>Z1,λi V hV=> ?_⟩;simp only[getElem?_map,map_eq_some_iff]at hV;obtain⟨q,r,rfl⟩:=hV;obtain⟨q1,q2,q3,q4,q5,_⟩:=g i q r;have ak:(rS agg q.2).cells.size=P.cellsOf e:=by rw[<-Array.length_toList,q4,q2]
      refine⟨ak,λj u hj=> ?_⟩;have ah:j<P.cellsOf e:=by have:=(Array.getElem?_eq_some_iff.1 hj).1;omega
      rw[<-getElem?_toList,q4]at hj;obtain⟨v,aa,a1⟩:=q1 j ah;rw[hj]at aa;cases aa;have hs:a.spot=none:=k.resolve_right λe=>by rw[e]at r;simp at r
      obtain⟨ab,ao,ae⟩:=a;cases (show ae=none from hs);rw[eI,eI]at a1;refine⟨?_,a1,q5 u (mem_of_getElem? hj)⟩;show ab<w.heap.size;unfold World.cell? at a1;cases hb:w.heap[ab]? with
      |none=>simp[hb]at a1
      |some o=>exact(Array.getElem?_eq_some_iff.1 hb).1
    · simp only[yY];have:aC size (l.map (·.1))<=oC (elems.map (·.1)):=FE _ _ (by simp[hl,h4]) λi x y hx hy=>by simp only[getElem?_map,map_eq_some_iff]at hx hy;obtain⟨q,r,rfl⟩:=hx;obtain⟨z,hz,rfl⟩:=hy;exact(g i q r).2.2.2.2.2.1 z hz
      omega
    · intro x hx;obtain⟨q,r,rfl⟩:=List.mem_map.1 hx;obtain⟨i,X⟩:=getElem?_of_mem r;exact(g i q X).2.2.2.2.2.2
def Dw(v:AV):List AV:=
  match v with
  | .agg cs=>cs
  |v=>[v]
def AW(P:Program)(n:Nat)(fs:List Field)(off:Nat){α:Type}(enc:α->List AV)(size:α->Nat)(ok:α->Prop):Prop:=
  ∀(H:Type) (eh:TypeId×Value->H) (w:World) (fuel:Nat) (cs:List Value) (xs:List (DataW H×List MemPlace)),fuel<=n->xs.length=fs.length->
    (∀(i:Nat) (f:Field),fs[i]? =some f->DataW.trod eh P w 0 (λ_=>true) true fuel f.type ((cs.drop f.offset).take (P.cellsOf f.type))=xs[i]?)->cs.length=off+(fs.map λf=>P.cellsOf f.type).sum->
    ∃x:α,AM (old w) w (enc x) (cs.drop off)/\(∀u∈cs.drop off,u.oneCell'= true)/\size x<=oC (xs.map (·.1))/\ok x
theorem AW.nil{a:Nat}:AW P n [] a (λ_:Unit=>[]) (λ_=>0) (λ_=>True):=by intro H eh w b cs xs _ _ _ c;have:cs.drop a=[]:=List.drop_eq_nil_of_le (by simp at c;omega);rw[this];exact⟨(),rfl,Wb,zero_le _,trivial⟩
theorem AW.cons{f:Field}{fs:List Field}{a c:Nat}{agg:Bool}{α β:Type}{d:α->AV}{size:α->Nat}{ok:α->Prop}{h:β->List AV}{g:β->Nat}{a0:β->Prop}
    (ho:f.offset=a) (O:P.cellsOf f.type=c) (k:∀x,(agg=true->∃cs,d x = .agg cs)/\(agg=false->Dw (d x)=[d x])) (h1:AQ P n f.type agg d size ok) (h2:AW P n fs (a+c) h g a0):
    AW P n (f::fs) a (λx:α×β=>Dw (d x.1)++h x.2) (λx=>size x.1+g x.2) (λx=>ok x.1/\a0 x.2):=by
  intro H eh w j cs xs q z hx hl;cases xs with
  |nil=>simp at z
  |cons x0 xs=>
    have e0:=hx 0 f rfl;obtain⟨x,m,l,r3,r4,r5⟩:=h1 H eh w j _ x0.1 x0.2 q e0;obtain⟨y,s1,s2,s3,s4⟩:=h2 H eh w j cs xs q (by simpa using z) (λi f' a4=>by have:=hx (i+1) f' (by simpa using a4);simpa using this) (by rw[hl];simp only[List.map_cons,List.sum_cons,O];omega)
    rw[ho,O]at m l r3;have b:cs.drop a=(cs.drop a).take c++cs.drop (a+c):=by rw[<-List.drop_drop,List.take_append_drop]
    refine⟨(x,y), ?_, ?_, ?_,r5,s4⟩
    · rw[b]
      refine AM.append ?_ s1;cases e:agg with
      |true=>
        obtain⟨a8,p⟩:=(k x).1 e;rw[e,p]at m;obtain⟨vs,hv,t,_⟩:=m;rw[p];have:vs=((cs.drop a).take c).toArray:=by simpa [rS]using hv.symm
        rw[this]at t;simpa [Dw]using t
      |false=>
        rw[(k x).2 e];rw[e]at m l;have a5:(cs.drop a).take c≠[]:=by intro r;rw[r]at l;simp[rS,undef,Value.cells]at l
        obtain⟨v,vs,a6⟩:=List.exists_cons_of_ne_nil a5;rw[a6]at m l r3 ⊢;simp only[rS,Bool.false_eq_true,if_false,List.headD_cons]at m l;have a2:=r3 v Wb;have a3:v.cells = #[v]:=by cases v<;>first|rfl|cases a2
        rw[a3]at l;have:vs=[]:=XR
        subst this;exact⟨v,[],rfl,m,rfl⟩
    · intro u o
      rw[b]at o;rcases List.mem_append.1 o with o|o
      · exact r3 u o
      · exact s2 u o
    · simp only[List.map_cons,oC]
      omega
def bM{α:Type}{a:α->AV}(h:∀x,Dw (a x)=[a x])(x:α):(false=true->∃cs,a x = .agg cs)/\(false=false->Dw (a x)=[a x]):=WZ
def kN{α:Type}{a:α->AV}(h:∀x,∃cs,a x = .agg cs)(x:α):(true=true->∃cs,a x = .agg cs)/\(true=false->Dw (a x)=[a x]):=Xu
def AQ.struct{t:TypeId}{b:Array Field}{α:Type}{a:α->List AV}{size:α->Nat}{ok:α->Prop}(ht:P.underlying t=some (.struct b))(O:P.cellsOf t=(b.toList.map λf=>P.cellsOf f.type).sum)(h:AW P n b.toList 0 a size ok):
    AQ P (n+1) t true (λx:α => .agg (a x)) (λx=>size x+1) ok:=by intro H eh w g cs d ps o k;obtain⟨xs,m,rfl,hx,l,e,hf⟩:=DataW.trod_struct ht k;cases hx;obtain⟨x,p,j,r,q⟩:=h H eh w m cs xs om Yi (λi f c=>hf i f WA) (by rw[l,O];omega);exact⟨x,⟨cs.toArray,rfl,by simpa using p,by simpa using j⟩,by simp[rS,Value.cells],j,by simp only[yY];omega,q⟩
theorem AQ.map{t:TypeId}{agg:Bool}{α β:Type}{c:α->AV}{size:α->Nat}{ok:α->Prop}{b:β->AV}{a:β->Nat}{ok': β->Prop}(h:AQ P n t agg c size ok)
    (f:α->β) (j:∀x,b (f x)=c x) (k:∀x,a (f x)<=size x) (h3:∀x,ok x->ok' (f x)):AQ P n t agg b a ok':= by intro H eh w e cs d ps g i;obtain⟨x,l,m,o,p,q⟩:=h H eh w e cs d ps g i;grind
end
section
variable {H:Type} {eh:TypeId×Value->H} {P:Program} {w:World}
def QK{t:TypeId}{agg:Bool}{α:Type}{g:α->AV}{size:α->Nat}{ok:α->Prop}(h:∀n,AQ P n t agg g size ok)(b:((P.underlying t).map Dy).getD false=agg){base:Nat}(a:Value.okWide P w .any base t v)
    {d:DataW H} {ps:List MemPlace} (m:DataW.Trod eh P w 0 (λ_=>true) true t v d ps):∃x:α,Aa (old w) w (g x) v/\size x<=yY d/\ok x:=by
  obtain⟨c,hf⟩:=m;obtain⟨x,q,r,u,o,p⟩:=h c H eh w c _ d ps (Nat.le_refl _) hf;refine⟨x, ?_,o,p⟩;have:rS agg v.cells.toList=v:=by
    cases j:P.underlying t with
    |none=>unfold Value.okWide at a;simp[Cell.okWide,Cell.ok,j]at a
    |some f=>
      rw[j]at b;simp only[Option.map_some,Option.getD_some]at b;subst b;cases i:Dy f with
      |true=>unfold Value.okWide at a;rw[j]at a;cases f<;>first|(cases i;done)|(obtain⟨cs,rfl,_⟩:=a;simp[rS,Value.cells])
      |false=>
        have l:∀vs,v = .agg vs->False:=by intro vs e;subst e;unfold Value.okWide at a;cases f<;>first|(cases i;done)|(simp[Cell.okWide,Cell.ok,j]at a)
        have k:v.cells = #[v]:=by cases v<;>first|rfl|exact(l _ rfl).elim
        rw[k];rfl
  simp_all
def Pe{f:Func}{s:ChangeSpec}{W': World}{args:Array Value}{a i:List (DataW H)}{c:List MemPlace}{tb:TypeId}(z:laidOutB P=true)(o:s.vars=[])(hr:f.resultTypes = #[tb])(hb:P.underlying tb=some .bool)
    (j:∀t∈f.params.toList,P.readableRec t=true/\t<P.types.size) (hs:(s.fn H (a++i))={ results:=[.lit (.bool true)],args:=a })
    (hW:DataW.Whole eh P f.params.toList s.vars false W args.toList a i c) (e:Below W.heap.size W W'):s.post eh P f false true false false W args (.bool true) W':= by
  have a0:=hW.lt;have l:=hW;obtain⟨p,q,hA,k,rfl,y,a1⟩:=hW;rw[o]at k;have m:i=[]/\q=[]:=by
    cases i with
    |nil=>exact⟨rfl,k⟩
    |cons g i=>exact k.elim
  obtain⟨rfl,rfl⟩:=m;refine⟨a,[],_,[],p,[],l, ?_, ?_, ?_, ?_,λh=>W0⟩
  · rw[hs,hr]
    exact⟨[],[],⟨1,by simp[DataW.trod,Value.cells,hb]⟩,rfl,rfl⟩
  · rw[hs]
    have a2:∀(ts:List TypeId) (vs:List Value) (a:List (DataW H)) (ps:List MemPlace),(∀t∈ts,P.readableRec t=true/\t<P.types.size)->(∀x∈ps,x.block<W.heap.size)->DataW.TrodAll eh P W 0 (λ_=>true) true ts vs a ps->
        DataW.TrodAll eh P W' 0 (λb=>decide (b<W.heap.size)) true ts vs a ps:=by
      intro ts;induction ts with
      |nil=>intro vs a ps _ _ h;cases vs<;>cases a<;>exact h
      |cons t ts E=>
        intro vs a ps ht hp h;cases vs with
        |nil=>cases a<;>exact h.elim
        |cons v vs=>
          cases a with
          |nil=>exact h.elim
          |cons d a=>obtain⟨p1,r,u,w,rfl⟩:=h;exact⟨p1,r,Below.trod z (ht t Wb).1 (ht t Wb).2 u e (λx hx=>hp x Yq),E vs a r (λt' n=>ht t' (by simp[n])) (λx hx=>hp x Yq) w,rfl⟩
    simp_all
  · rw[hs,o];rfl
  · exact e.frame _
def HC{J:List AV}(h:AN P f J (.bool true)){args:Array Value}(a:Aq (λb _=>b<W.heap.size) W)(c:AM (old W) W J args.toList):Calls P f args W λe W'=> e = .returned (.bool true)/\Below W.heap.size W W':= by refine(h.2.2 _ W args (λb o hb=>hb) a c).mono ?_;rintro e w' ⟨d,h1,h2,u,rfl,h3⟩;refine⟨by rw[show u = .bool true from h3],⟨h1.os,h1.tape,h1.output,h1.size,λk hk=>h1.fr k hk Wb (λj r h=>Wp)⟩⟩
end
end Go.Av
