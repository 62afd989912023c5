/- Joined texts. -/
import Derived.Recover
import Derived.MapKept
import Derived.ProofKit
import Derived.JoinedCond
import Derived.Carry
import Derived.Test.YtdodieljpcfpcaaGreatDoorAvVec5
set_option linter.all false
open List (getElem?_eq_getElem getElem?_inj getElem?_map getElem?_of_mem length_map mem_of_getElem? nodup_nil)
open Nat (le_of_ble_eq_true zero_le)
open Array (getElem?_toList toList_map)
open Bool (and_eq_true)
open Option (bind_eq_some_iff map_eq_some_iff)
open Go Go.Av
variable{args:Array Operand}{p:Array TypeId}{o:Av->St->Prop}{b:Bool}{x y:Code}{fn:Func}{f:FuncId}{m r:Int}{k e:IntKind}{c:List Nat}{xs:List UInt8}{i z k':Nat}{a:Op}{dst:Option Tmp}{ti:TI}{T U:TypeId}{v:Value}{W w':World}
namespace Go.Av
open Go
variable [AK]
def upd{α:Type}:List α->List Nat->List α->List α
  |l,[],_=>l
  |l,_::_,[]=>l
  |l,i::is,x::c=>upd (l.set i x) is c
def fA{α:Type}(l:List α)(is:List Nat)(c:List α):List α:=upd l is c++c.drop is.length
def emb(n:Nat)(is:List Nat)(k:Nat):Nat:=if k<is.length then is.getD k 0 else n+(k-is.length)
section
variable {α:Type}
theorem nN:∀(l:List α) (is:List Nat) (c:List α),(upd l is c).length=l.length
  |l,[],c=>by cases c<;>rfl
  |l,_::_,[]=>rfl
  |l,i::is,x::c=>by rw[upd,nN];simp
theorem Ck:∀(l:List α) (is:List Nat) (c:List α) (j:Nat),j∉is->(upd l is c)[j]? =l[j]?
  |l,[],c,j,_=>by cases c<;>rfl
  |l,_::_,[],j,_=>rfl
  |l,i::is,x::c,j,h=>by
    simp only[List.mem_cons,not_or]at h
    rw[upd,Ck _ is c j h.2,List.getElem?_set_ne (Ne.symm h.1)]
theorem Cl:∀(l:List α) (is:List Nat) (c:List α) (k i:Nat),is.Nodup->(∀i∈is,i<l.length)->is.length<=c.length->is[k]? =some i->(upd l is c)[i]? =c[k]?
  |l,[],c,k,i,_,_,_,h=>by simp at h
  |l,_::_,[],k,i,_,_,h,_=>by simp at h
  |l,a::is,x::c,0,i,hn,hl,O,h=>by
    simp at h
    subst h
    rw[List.nodup_cons]at hn
    rw[upd,Ck _ is c a hn.1,List.getElem?_set_self (hl a Wa)]
    rfl
  |l,a::is,x::c,k+1,i,hn,hl,O,h=>by
    rw[List.nodup_cons]at hn
    rw[upd,Cl (l.set a x) is c k i hn.2 (λi X=>by rw[List.length_set];exact hl i (by simp[X])) Ze Wp]
    simp
structure Bo(n:Nat)(is:List Nat):Prop where
  nodup:is.Nodup
  lt:∀i∈is,i<n
theorem mV{l:List α}{is:List Nat}{c:List α}(O:is.length<=c.length):(fA l is c).length=l.length+(c.length-is.length):=by unfold fA;rw[List.length_append,nN,List.length_drop]
theorem jG{l:List α}{is:List Nat}{c:List α}{j:Nat}(hj:j<l.length)(h:j∉is):(fA l is c)[j]? =l[j]? :=by unfold fA;rw[List.getElem?_append_left (by rw[nN];exact hj),Ck _ _ _ _ h]
theorem nO{n:Nat}{is:List Nat}{k:Nat}(h:k<is.length):is[k]? =some (emb n is k):=by unfold emb;rw[if_pos h];simp[List.getD,h]
theorem pH{l:List α}{is:List Nat}{c:List α}(hs:Bo l.length is)(O:is.length<=c.length)(k:Nat):(fA l is c)[emb l.length is k]? =c[k]? :=by
  by_cases h:k<is.length
  · have he:=nO (n:=l.length) h
    have hlt:=hs.lt _ (mem_of_getElem? he);unfold fA;rw[List.getElem?_append_left (by rw[nN];exact hlt)];exact Cl l is c k _ hs.nodup hs.lt O he
  · unfold fA emb
    rw[if_neg h,List.getElem?_append_right (by rw[nN];omega),nN,List.getElem?_drop]
    congr 1
    omega
def oC{l:List α}{is:List Nat}{c:List α}{j:Nat}(hs:Bo l.length is)(O:is.length<=c.length)(hj:j<(fA l is c).length):(∃k,k<c.length/\j=emb l.length is k)\/(j<l.length/\j∉is):=by
  rw[mV O]at hj;by_cases h:j<l.length
  · by_cases a:j∈is
    · obtain⟨k,hk,rfl⟩:=List.getElem_of_mem a
      refine .inl ⟨k,om, ?_⟩;have:=nO (n:=l.length) hk;rw[getElem?_eq_getElem hk]at this;exact Option.some.inj this
    · exact .inr ⟨h,a⟩
  · refine .inl ⟨is.length+(j-l.length),om, ?_⟩
    unfold emb;rw[if_neg om];omega
def Tp{n:Nat}{is:List Nat}(hs:Bo n is){k:Nat}(h:emb n is k=emb n is k'):k=k':= by
  by_cases h1:k<is.length
  · have e1:=nO (n:=n) h1
    by_cases h2:k'< is.length
    · have a:=nO (n:=n) h2
      rw[<-h]at a;exact(getElem?_inj h1 hs.nodup).1 (e1.trans a.symm)
    · have:=hs.lt _ (mem_of_getElem? e1)
      have b:emb n is k'= n+(k'- is.length):=if_neg h2;omega
  · have e1:emb n is k=n+(k-is.length):=if_neg h1
    by_cases h2:k'< is.length
    · have a:=nO (n:=n) h2
      have:=hs.lt _ (mem_of_getElem? a);omega
    · have a:emb n is k'= n+(k'- is.length):=if_neg h2
      omega
def NH{n:Nat}{is:List Nat}(hs:Bo n is){k:Nat}(h:emb n is k<n):k<is.length:=by
  refine Classical.byContradiction λhn=> ?_
  have e1:emb n is k=n+(k-is.length):=if_neg hn;omega
end
def Tk.ae(N:Nat->Nat):Tk->Tk
  | .own k z => .own (N k) z
  |t=>t
mutual
def AV.ae(Q N:Nat->Nat):AV->AV
  | .agg cs => .agg (aW Q N cs)
  | .tup cs => .tup (aW Q N cs)
  | .slice xs t => .slice (aW Q N xs) (t.ae N)
  | .ptr i off => .ptr (Q i) off
  | .ab x => .ab (x.ae Q N)
  | .fn f a b => .fn f (aW Q N a) (aW Q N b)
  | .iface t x => .iface t (x.ae Q N)
  | .map i => .map (Q i)
  | .iter i => .iter (Q i)
  | .view xs n => .view (aW Q N xs) n
  | .Y k z n lo X => .Y (N k) z n lo X
  | .an k z n j off => .an (N k) z n j off
  | .undef => .undef
  | .bool b => .bool b
  | .int k n => .int k n
  | .str s => .str s
  | .nilp => .nilp
  | .praw a => .praw a
  | .nilfn => .nilfn
  | .nili => .nili
  | .nilmap => .nilmap
def aW(Q N:Nat->Nat):List AV->List AV
  |[]=>[]
  |x::xs=>x.ae Q N::aW Q N xs
end
theorem El(Q N:Nat->Nat):∀l:List AV,aW Q N l=l.map (AV.ae Q N)
  |[]=>by rw[aW];rfl
  |x::l=>by rw[aW,El Q N l];rfl
mutual
theorem cV(Q N:Nat->Nat):∀x:AV,x.K=true->x.ae Q N=x
  | .undef,_=>by rw[AV.ae]
  | .bool _,_=>by rw[AV.ae]
  | .int _ _,_=>by rw[AV.ae]
  | .str _,_=>by rw[AV.ae]
  | .agg cs,h=>by rw[AV.ae,aS Q N cs Xn]
  | .tup cs,h=>by rw[AV.ae,aS Q N cs Xn]
  | .slice xs t,h=>by
    simp only[AV.K,and_eq_true]at h
    rw[AV.ae,aS Q N xs h.2]
    cases t with
    |own k z=>exact absurd h.1 Wa
    |no=>rfl
    |full=>rfl
    |nil=>rfl
    |nn=>rfl
  | .ptr _ _,h=>by cases h
  | .ab x,h=>by rw[AV.ae,cV Q N x Xn]
  | .nilp,_=>by rw[AV.ae]
  | .praw _,_=>by rw[AV.ae]
  | .fn _ a b,h=>by
    simp only[AV.K,and_eq_true]at h
    rw[AV.ae,aS Q N a h.1,aS Q N b h.2]
  | .nilfn,_=>by rw[AV.ae]
  | .iface _ x,h=>by rw[AV.ae,cV Q N x Xn]
  | .nili,_=>by rw[AV.ae]
  | .map _,h=>by cases h
  | .nilmap,_=>by rw[AV.ae]
  | .iter _,h=>by cases h
  | .view xs _,h=>by rw[AV.ae,aS Q N xs Xn]
  | .Y _ _ _ _ _,h=>by cases h
  | .an _ _ _ _ _,h=>Wu
theorem aS(Q N:Nat->Nat):∀xs:List AV,aB xs=true->aW Q N xs=xs
  |[],_=>by rw[aW]
  |x::xs,h=>by
    simp only[aB,and_eq_true]at h
    rw[aW,cV Q N x h.1,aS Q N xs h.2]
end
structure B3(g0 g:Gh)(Q N:Nat->Nat):Prop where
  bx:∀(i b:Nat),g0.bx[i]? =some b->g.bx[Q i]? =some b
  tk:∀(k:Nat) (r:A9),g0.tk[k]? =some r->g.tk[N k]? =some r
  im:∀b o,g0.im b o->g.im b o
def Bb.into{g0 g:Gh}{w:World}(a:∀b o,g0.im b o->g.im b o){b o:Nat}{V:Value}(h:Bb g0 w b o V):Bb g w b o V:=λj u hj=>⟨a _ _ (h j u hj).1,(h j u hj).2⟩
def BA.into{g0 g:Gh}{w:World}(a:∀b o,g0.im b o->g.im b o){b sz o:Nat}{Vs:List Value}(h:BA g0 w b sz o Vs):BA g w b sz o Vs:=λi V X=>⟨(h i V X).1,(h i V X).2.into a⟩
mutual
theorem Ab.ae{g0 g:Gh}{w:World}{Q N:Nat->Nat}(hh:B3 g0 g Q N):∀(x:AV) (v:Value),Ab g0 w x v->Ab g w (x.ae Q N) v
  | .undef,_,_=>by rw[AV.ae];trivial
  | .bool _,_,h=>by rw[AV.ae];exact h
  | .int _ _,_,h=>by rw[AV.ae];exact h
  | .str _,_,h=>by rw[AV.ae];exact h
  | .agg cs,_,⟨vs,e,hl,h1⟩=>by rw[AV.ae];exact⟨vs,e,AL.ae hh cs _ hl,h1⟩
  | .tup cs,_,⟨vs,e,hl⟩=>by rw[AV.ae];exact⟨vs,e,AL.ae hh cs _ hl⟩
  | .slice xs t,_,⟨a,cap,sz,Vs,e,h1,h2,h3,h4,d,c⟩=>by
    rw[AV.ae]
    refine⟨a,cap,sz,Vs,e,h1,h2, ?_,AL.ae hh xs _ h4,d,λp hp=>⟨(c p hp).1,(c p hp).2.into hh.im⟩⟩
    cases t with
    |own k z=>obtain⟨e1,r,f,j⟩:=h3;exact⟨e1,r,hh.tk _ _ f,j⟩
    |no=>exact h3
    |full=>exact h3
    |nil=>exact h3
    |nn=>exact h3
  | .ptr i _,_,⟨b,h1,e⟩=>by rw[AV.ae];exact⟨b,hh.bx _ _ h1,e⟩
  | .ab x,_,⟨b,o,V,e,h1,h2⟩=>by rw[AV.ae];exact⟨b,o,V,e,h1.into hh.im,Ab.ae hh x _ h2⟩
  | .nilp,_,h=>by rw[AV.ae];exact h
  | .praw _,_,h=>by rw[AV.ae];exact h
  | .fn _ l cs,_,⟨vs,ws,e,h1,h2⟩=>by rw[AV.ae];exact⟨vs,ws,e,AL.ae hh l _ h1,AL.ae hh cs _ h2⟩
  | .nilfn,_,h=>by rw[AV.ae];exact h
  | .iface _ x,_,⟨u,e,h1⟩=>by rw[AV.ae];exact⟨u,e,Ab.ae hh x _ h1⟩
  | .nili,_,h=>by rw[AV.ae];exact h
  | .map i,_,⟨b,h1,e⟩=>by rw[AV.ae];exact⟨b,hh.bx _ _ h1,e⟩
  | .nilmap,_,h=>by rw[AV.ae];exact h
  | .iter i,_,⟨b,h1,e⟩=>by rw[AV.ae];exact⟨b,hh.bx _ _ h1,e⟩
  | .view xs _,_,⟨a,cap,sz,Vs,e,h0,h1,h2,h4,d,c⟩=>by rw[AV.ae];exact⟨a,cap,sz,Vs,e,h0,h1,h2,AL.ae hh xs _ h4,d,λp hp=>⟨(c p hp).1,(c p hp).2.into hh.im⟩⟩
  | .Y k _ _ _ _,_,⟨a,cap,e,h1,h2,h3,h4,d,r,hr,c⟩=>by rw[AV.ae];exact⟨a,cap,e,h1,h2,h3,h4,d,r,hh.tk _ _ hr,c⟩
  | .an k _ _ _ _,_,⟨b,o,e,hj,r,hr,c⟩=>by rw[AV.ae];exact⟨b,o,e,hj,r,hh.tk _ _ hr,c⟩
theorem AL.ae{g0 g:Gh}{w:World}{Q N:Nat->Nat}(hh:B3 g0 g Q N):∀(cs:List AV) (vs:List Value),AL g0 w cs vs->AL g w (aW Q N cs) vs
  |[],_,h=>by rw[aW];exact h
  |c::cs,_,⟨v,C,e,h1,h2⟩=>by rw[aW];exact⟨v,C,e,Ab.ae hh c _ h1,AL.ae hh cs _ h2⟩
end
structure Bu(g0 g:Gh)(Q N:Nat->Nat):Prop where
  bx:∀(i:Nat),i<g0.bx.length->g.bx[Q i]? =g0.bx[i]?
  tk:∀(k:Nat),k<g0.tk.length->g.tk[N k]? =g0.tk[k]?
  im:∀b o,g.im b o->g0.im b o
mutual
theorem Ab.a8{g0 g:Gh}{w:World}{Q N:Nat->Nat}(hh:Bu g0 g Q N):∀(x:AV) (v:Value),x.aa g0.bx.length g0.tk.length=true->Ab g w (x.ae Q N) v->Ab g0 w x v
  | .undef,_,_,_=>trivial
  | .bool _,_,_,h=>by rw[AV.ae]at h;exact h
  | .int _ _,_,_,h=>by rw[AV.ae]at h;exact h
  | .str _,_,_,h=>by rw[AV.ae]at h;exact h
  | .agg cs,_,O,h=>by rw[AV.ae]at h;obtain⟨vs,e,hl,h1⟩:=h;exact⟨vs,e,AL.a8 hh cs _ W4 hl,h1⟩
  | .tup cs,_,O,h=>by rw[AV.ae]at h;obtain⟨vs,e,hl⟩:=h;exact⟨vs,e,AL.a8 hh cs _ W4 hl⟩
  | .slice xs t,_,O,h=>by
    rw[AV.ae]at h
    obtain⟨a,cap,sz,Vs,e,h1,h2,h3,h4,d,c⟩:=h
    simp only[AV.aa,and_eq_true]at O
    refine⟨a,cap,sz,Vs,e,h1,h2, ?_,AL.a8 hh xs _ O.2 h4,d,λp hp=>⟨(c p hp).1,(c p hp).2.into hh.im⟩⟩
    cases t with
    |own k z=>
      obtain⟨e1,r,f,j⟩:=h3
      exact⟨e1,r,by rw[<-hh.tk k (le_of_ble_eq_true O.1)];exact f,j⟩
    |no=>exact h3
    |full=>exact h3
    |nil=>exact h3
    |nn=>exact h3
  | .ptr i _,_,O,h=>by rw[AV.ae]at h;obtain⟨b,h1,e⟩:=h;exact⟨b,Xy,e⟩
  | .ab x,_,O,h=>by rw[AV.ae]at h;obtain⟨b,o,V,e,h1,h2⟩:=h;exact⟨b,o,V,e,h1.into hh.im,Ab.a8 hh x _ W4 h2⟩
  | .nilp,_,_,h=>by rw[AV.ae]at h;exact h
  | .praw _,_,_,h=>by rw[AV.ae]at h;exact h
  | .fn _ l cs,_,O,h=>by
    rw[AV.ae]at h
    obtain⟨vs,ws,e,h1,h2⟩:=h
    simp only[AV.aa,and_eq_true]at O
    exact⟨vs,ws,e,AL.a8 hh l _ O.1 h1,AL.a8 hh cs _ O.2 h2⟩
  | .nilfn,_,_,h=>by rw[AV.ae]at h;exact h
  | .iface _ x,_,O,h=>by rw[AV.ae]at h;obtain⟨u,e,h1⟩:=h;exact⟨u,e,Ab.a8 hh x _ W4 h1⟩
  | .nili,_,_,h=>by rw[AV.ae]at h;exact h
  | .map i,_,O,h=>by rw[AV.ae]at h;obtain⟨b,h1,e⟩:=h;exact⟨b,Xy,e⟩
  | .nilmap,_,_,h=>by rw[AV.ae]at h;exact h
  | .iter i,_,O,h=>by rw[AV.ae]at h;obtain⟨b,h1,e⟩:=h;exact⟨b,Xy,e⟩
  | .view xs _,_,O,h=>by
    rw[AV.ae]at h
    obtain⟨a,cap,sz,Vs,e,h0,h1,h2,h4,d,c⟩:=h
    exact⟨a,cap,sz,Vs,e,h0,h1,h2,AL.a8 hh xs _ W4 h4,d,λp hp=>⟨(c p hp).1,(c p hp).2.into hh.im⟩⟩
  | .Y k _ _ _ _,_,O,h=>by
    rw[AV.ae]at h
    obtain⟨a,cap,e,h1,h2,h3,h4,d,r,hr,c⟩:=h
    exact⟨a,cap,e,h1,h2,h3,h4,d,r,YI,c⟩
  | .an k _ _ _ _,_,O,h=>by
    rw[AV.ae]at h
    obtain⟨b,o,e,hj,r,hr,c⟩:=h
    exact⟨b,o,e,hj,r,YI,c⟩
theorem AL.a8{g0 g:Gh}{w:World}{Q N:Nat->Nat}(hh:Bu g0 g Q N):∀(cs:List AV) (vs:List Value),aE g0.bx.length g0.tk.length cs=true->AL g w (aW Q N cs) vs->AL g0 w cs vs
  |[],_,_,h=>by rw[aW]at h;exact h
  |c::cs,_,O,h=>by
    rw[aW]at h
    obtain⟨v,C,e,h1,h2⟩:=h
    simp only[aE,and_eq_true]at O
    exact⟨v,C,e,Ab.a8 hh c _ O.1 h1,AL.a8 hh cs _ O.2 h2⟩
end
def O7(Q N:Nat->Nat):List (AV×AV)->List (AV×AV)
  |[]=>[]
  |(k,v)::l=>(k.ae Q N,v.ae Q N)::O7 Q N l
def Ob.ae(Q N:Nat->Nat):Ob->Ob
  | .cells cs => .cells (aW Q N cs)
  | .map es => .map (O7 Q N es)
  | .iter s p => .iter s p
def Tok.ae(Q N:Nat->Nat):Tok->Tok
  | .len n => .len n
  | .Y xs => .Y (aW Q N xs)
theorem vX(Q N:Nat->Nat)(l:List AV):(aW Q N l).length=l.length:=by rw[El,length_map]
section
variable {g0 g:Gh} {w:World} {Q N:Nat->Nat}
theorem Au.ae(hh:B3 g0 g Q N):∀(l:List (AV×AV)) (es:List MapEntry),Au g0 w l es->Au g w (O7 Q N l) es
  |[],_,h=>h
  |(k,v)::l,_,⟨e,C,he,h1,h2,h3⟩=>⟨e,C,he,Ab.ae hh k _ h1,Ab.ae hh v _ h2,Au.ae hh l _ h3⟩
theorem Au.a8(hh:Bu g0 g Q N):∀(l:List (AV×AV)) (es:List MapEntry),oP g0.bx.length g0.tk.length l=true->Au g w (O7 Q N l) es->Au g0 w l es
  |[],_,_,h=>h
  |(k,v)::l,_,hb,⟨e,C,he,h1,h2,h3⟩=>by
    simp only[oP,and_eq_true]at hb
    exact⟨e,C,he,Ab.a8 hh k _ hb.1.1 h1,Ab.a8 hh v _ hb.1.2 h2,Au.a8 hh l _ hb.2 h3⟩
theorem BJ.ae(hh:B3 g0 g Q N){b:Nat}{ob:Ob}(h:BJ g0 w b ob):BJ g w b (ob.ae Q N):=by
  cases ob with
  |cells cs=>obtain⟨J,R,h1,h2,h3⟩:=h;exact⟨J,R,h1,AL.ae hh cs _ h2,h3⟩
  |map es=>obtain⟨c,a,h1,h2⟩:=h;exact⟨c,a,h1,Au.ae hh es _ h2⟩
  |iter s p=>exact h
theorem BJ.a8(hh:Bu g0 g Q N){b:Nat}{ob:Ob}(hl:ob.aa g0.bx.length g0.tk.length=true)(h:BJ g w b (ob.ae Q N)):BJ g0 w b ob:=by
  cases ob with
  |cells cs=>obtain⟨J,R,h1,h2,h3⟩:=h;exact⟨J,R,h1,AL.a8 hh cs _ hl h2,h3⟩
  |map es=>obtain⟨c,a,h1,h2⟩:=h;exact⟨c,a,h1,Au.a8 hh es _ hl h2⟩
  |iter s p=>exact h
theorem A7.ae(hh:B3 g0 g Q N){r:A9}{t:Tok}(h:A7 g0 w r t):A7 g w r (t.ae Q N):=by
  cases t with
  |len n=>exact h
  |Y xs=>obtain⟨h1,h2,h3,Vs,h4,a⟩:=h;exact⟨by rw[vX];exact h1,h2,h3,Vs,AL.ae hh xs _ h4,a⟩
theorem A7.a8(hh:Bu g0 g Q N){r:A9}{t:Tok}(hl:t.aa g0.bx.length g0.tk.length=true)(h:A7 g w r (t.ae Q N)):A7 g0 w r t:=by
  cases t with
  |len n=>exact h
  |Y xs=>obtain⟨h1,h2,h3,Vs,h4,a⟩:=h;exact⟨by rw[vX]at h1;exact h1,h2,h3,Vs,AL.a8 hh xs _ hl h4,a⟩
end
def Gh.pick(g:Gh)(bs ts:List Nat):Gh:=⟨bs.filterMap (g.bx[·]?),ts.filterMap (g.tk[·]?),g.im⟩
def FE{α:Type}{l:List α}:∀ {is:List Nat},(∀i∈is,i<l.length)->(is.filterMap (l[·]?)).length=is.length
  |[],_=>rfl
  |i::is,h=>by
    have X:=h i Wa
    have E:=FE (is:=is) λj hj=>h j (by simp[hj])
    rw[List.filterMap_cons,getElem?_eq_getElem X]
    simp only[List.length_cons,E]
def FF{α:Type}{l:List α}:∀ {is:List Nat} (k:Nat),(∀i∈is,i<l.length)->(is.filterMap (l[·]?))[k]? =(is[k]?).bind (l[·]?)
  |[],k,_=>by simp
  |i::is,0,h=>by
    have X:=h i Wa
    rw[List.filterMap_cons,getElem?_eq_getElem X]
    simp
  |i::is,k+1,h=>by
    have X:=h i Wa
    rw[List.filterMap_cons,getElem?_eq_getElem X]
    simp only[List.getElem?_cons_succ]
    exact FF k λj hj=>h j (by simp[hj])
section
variable {g:Gh} {H:St} {w:World}
def Kg{α:Type}{l:List α}(h:∀a b,a<b->b<l.length->l[a]? =l[b]? ->False):l.Nodup:=
  List.pairwise_iff_getElem.2 λi j X hj c e=>h i j c hj (by rw[getElem?_eq_getElem X,getElem?_eq_getElem hj,e])
def Kh(X:Inv g H w){ts:List Nat}(hb:Bo H.B.length c)(ht:Bo H.T.length ts){B0:List Ob}{T0:List Tok}(a0:B0.length=c.length)(a1:T0.length=ts.length)
    (a8:∀(k i:Nat) (ob:Ob),c[k]? =some i->B0[k]? =some ob->H.B[i]? =some (ob.ae (emb H.B.length c) (emb H.T.length ts))) (a9:∀(k i:Nat) (t:Tok),ts[k]? =some i->T0[k]? =some t->H.T[i]? =some (t.ae (emb H.B.length c) (emb H.T.length ts)))
    (a5:aQ c.length ts.length B0=true) (a6:aL c.length ts.length T0=true):
    Inv (g.pick c ts) ⟨B0,T0⟩ w/\Bu (g.pick c ts) g (emb H.B.length c) (emb H.T.length ts)/\(g.pick c ts).bx.length=c.length/\(g.pick c ts).tk.length=ts.length:=by
  have hb': ∀i∈c,i<g.bx.length:=λi h=>by rw[X.lenB];exact hb.lt i h
  have x:∀i∈ts,i<g.tk.length:=λi h=>by rw[X.lenT];exact ht.lt i h
  have p:(g.pick c ts).bx.length=c.length:=FE hb';have y:(g.pick c ts).tk.length=ts.length:=FE x;have m:∀k:Nat,(g.pick c ts).bx[k]? =(c[k]?).bind (g.bx[·]?):=λk=>FF k hb'
  have z:∀k:Nat,(g.pick c ts).tk[k]? =(ts[k]?).bind (g.tk[·]?):=λk=>FF k x
  have l:Bu (g.pick c ts) g (emb H.B.length c) (emb H.T.length ts):=by
    refine⟨λi a4=> ?_,λk j=> ?_,λ_ _ h=>h⟩
    · rw[m,nO (n:=H.B.length) (is:=c) (by rw[<-p];exact a4)];rfl
    · rw[z,nO (n:=H.T.length) (is:=ts) (by rw[<-y];exact j)];rfl
  refine⟨⟨by rw[p];exact a0.symm,by rw[y];exact a1.symm,λk b ob h1 h2=> ?_, ?_,λb a3 o=> ?_,λk t r h1 h2=> ?_,λk r h1 b o ho=> ?_,λk k' r r' a7 h1 h2=> ?_,X.imlt,X.gl⟩,l,p,y⟩
  · rw[m]at h1
    obtain⟨i,e1,d⟩:=bind_eq_some_iff.1 h1;exact(X.ob i b _ d (a8 k i ob e1 h2)).a8 l (by rw[p,y];exact yV a5 h2)
  · refine Kg λa b ab a2 e=> ?_
    have u:b<c.length:=by rw[<-p];exact a2
    have e1:=nO (n:=H.B.length) (show a<c.length by omega);have d:=nO (n:=H.B.length) u;rw[m,m,e1,d]at e;simp only[Option.bind_some]at e;have h1:emb H.B.length c a<g.bx.length:=hb' _ (mem_of_getElem? e1);have:=(getElem?_inj h1 X.nodup).1 e;have:=Tp hb this;omega
  · obtain⟨k,hk⟩:=getElem?_of_mem a3
    rw[m]at hk;obtain⟨i,e1,d⟩:=bind_eq_some_iff.1 hk;exact X.noim b (mem_of_getElem? d) o
  · rw[z]at h1
    obtain⟨i,e1,d⟩:=bind_eq_some_iff.1 h1;exact(X.tok i _ r d (a9 k i t e1 h2)).a8 l (by rw[p,y];exact yU a6 h2)
  · rw[z]at h1
    obtain⟨i,e1,d⟩:=bind_eq_some_iff.1 h1;obtain⟨z1,z2,z3,z4⟩:=X.tkz i r d b o ho;refine⟨z1,λhm=> ?_,z3,z4⟩;obtain⟨k', v⟩:=getElem?_of_mem hm;rw[m]at v;obtain⟨i', q,f⟩:=bind_eq_some_iff.1 v;exact z2 (mem_of_getElem? f)
  · rw[z]at h1 h2
    obtain⟨i,e1,d⟩:=bind_eq_some_iff.1 h1;obtain⟨i', q,f⟩:=bind_eq_some_iff.1 h2;refine X.tkd i i' r r' (λe=> ?_) d f;subst e;have j:k<ts.length:=(List.getElem?_eq_some_iff.1 e1).1;exact a7 ((getElem?_inj j ht.nodup).1 (e1.trans q.symm))
def Ki(X:Inv g H w){bs ts:List Nat}(hb:Bo H.B.length bs)(ht:Bo H.T.length ts){l:Gh}{w': World}{B1:List Ob}{T1:List Tok}(ak:(g.pick bs ts).bx.length=bs.length)(hlt:(g.pick bs ts).tk.length=ts.length)
    (a3:Bu (g.pick bs ts) g (emb H.B.length bs) (emb H.T.length ts)) (Y:Ar (g.pick bs ts) w l w') (p:Inv l ⟨B1,T1⟩ w'):
    ∃g', Ar g w g' w'/\ Inv g' ⟨fA H.B bs (B1.map (Ob.ae (emb H.B.length bs) (emb H.T.length ts))),fA H.T ts (T1.map (Tok.ae (emb H.B.length bs) (emb H.T.length ts)))⟩ w'/\ B3 l g' (emb H.B.length bs) (emb H.T.length ts):=by
  have lB:=X.lenB;have lT:=X.lenT;have bg:l.bx.length=B1.length:=p.lenB;have bh:l.tk.length=T1.length:=p.lenT;have hb': Bo g.bx.length bs:=by rw[lB];exact hb
  have am:Bo g.tk.length ts:=by rw[lT];exact ht
  have pb:bs.length<=l.bx.length:=by
    rcases Nat.eq_zero_or_pos bs.length with e|e
    · omega
    · have h1:bs.length-1<(g.pick bs ts).bx.length:=om
      have:=Y.le.bx _ _ (getElem?_eq_getElem h1);have:=(List.getElem?_eq_some_iff.1 this).1;omega
  have pt:ts.length<=l.tk.length:=by
    rcases Nat.eq_zero_or_pos ts.length with e|e
    · omega
    · have h1:ts.length-1<(g.pick bs ts).tk.length:=om
      obtain⟨r', h2,_⟩:=Y.le.tk _ _ (getElem?_eq_getElem h1);have:=(List.getElem?_eq_some_iff.1 h2).1;omega
  let Q:=emb H.B.length bs
  let N:=emb H.T.length ts
  let g': Gh:=⟨fA g.bx bs l.bx,fA g.tk ts l.tk,l.im⟩
  have a7:Q=emb g.bx.length bs:=by rw[lB]
  have aq:N=emb g.tk.length ts:=by rw[lT]
  have y:∀k:Nat,g'.bx[Q k]? =l.bx[k]? :=λk=>by rw[a7];exact pH hb' pb k
  have ar:∀k:Nat,g'.tk[N k]? =l.tk[k]? :=λk=>by rw[aq];exact pH am pt k
  have z:B3 l g' Q N:=⟨λi b h=>by rw[y];exact h,λk r h=>by rw[ar];exact h,λ_ _ h=>h⟩;have pk:∀(k:Nat) (r:A9),(g.pick bs ts).tk[k]? =some r->g.tk[N k]? =some r:=λk r h=>by rw[a3.tk k (List.getElem?_eq_some_iff.1 h).1];exact h
  have af:∀b,b∈(g.pick bs ts).bx->b∈g.bx:=λb h=>by obtain⟨k,hk⟩:=getElem?_of_mem h;have:=a3.bx k (List.getElem?_eq_some_iff.1 hk).1;rw[hk]at this;exact mem_of_getElem? this
  have a5:∀b,b∈l.bx->b∈(g.pick bs ts).bx\/w.heap.size<=b:=Y.newbx;have a6:∀(k:Nat) (r:A9),l.tk[k]? =some r->∀b o,r.az b o->w.heap.size<=b\/∃x,g.tk[N k]? =some x/\x.az b o:=λk r h b o m=>by
    rcases Y.newz k r h b o m with h|⟨x,h1,h2⟩
    · exact .inl h
    · exact .inr ⟨x,pk k x h1,h2⟩
  have a4:∀b o,l.im b o->g.im b o\/w.heap.size<=b\/∃(k:Nat) (r:A9),k<ts.length/\g.tk[N k]? =some r/\r.az b o:=λb o h=>by
    rcases Y.newim b o h with h|h|⟨k,r,h1,h2⟩
    · exact .inl h
    · exact .inr (.inl h)
    · exact .inr (.inr ⟨k,r,by rw[<-hlt];exact(List.getElem?_eq_some_iff.1 h1).1,pk k r h1,h2⟩)
  have ae:∀b,b∈g'.bx->b∈g.bx\/b∈l.bx:=λb h=>by
    obtain⟨j,hj⟩:=getElem?_of_mem h;rcases oC hb' pb (List.getElem?_eq_some_iff.1 hj).1 with⟨k,hk,rfl⟩|⟨h1,h2⟩
    · rw[pH hb' pb]at hj;exact .inr (mem_of_getElem? hj)
    · rw[jG h1 h2]at hj;exact .inl (mem_of_getElem? hj)
  have d:∀(j:Nat) (r:A9),g'.tk[j]? =some r->(∃k,j=N k/\l.tk[k]? =some r)\/(j∉ts/\j<g.tk.length/\g.tk[j]? =some r):=λj r hj=>by
    rcases oC am pt (List.getElem?_eq_some_iff.1 hj).1 with⟨k,hk,rfl⟩|⟨h1,h2⟩
    · rw[pH am pt]at hj;exact .inl ⟨k,by rw[aq],hj⟩
    · rw[jG h1 h2]at hj;exact .inr ⟨h2,h1,hj⟩
  have q:∀k,k<ts.length->N k∈ts:=λk hk=>mem_of_getElem? (nO (n:=H.T.length) hk)
  have a8:∀k,k<bs.length->Q k∈bs:=λk hk=>mem_of_getElem? (nO (n:=H.B.length) hk)
  have ah:∀(j:Nat) (r:A9),j∉ts->g.tk[j]? =some r->∀b o,r.az b o->b<w.heap.size/\b∉(g.pick bs ts).bx/\(∀(k:Nat) (x:A9),(g.pick bs ts).tk[k]? =some x->¬x.az b o):=λj r hj hr b o m=>by
    refine⟨X.bc hr m,λh=>(X.tkz j r hr b o m).2.1 (af b h),λk x hk a0=> ?_⟩;have v:k<ts.length:=by rw[<-hlt];exact(List.getElem?_eq_some_iff.1 hk).1
    exact X.tkd j (N k) r x (λe=>hj (e▸q k v)) hr (pk k x hk) b o m a0
  have al:Le g w g' w':= by
    refine⟨λb o h=>Y.le.im b o h,λi b h=> ?_,λj r h=> ?_⟩
    · by_cases f:i∈bs
      · obtain⟨k,hk,rfl⟩:=List.getElem_of_mem f
        have e1:=nO (n:=H.B.length) hk;rw[getElem?_eq_getElem hk]at e1;have e2:bs[k]=Q k:=Option.some.inj e1;rw[e2]at h ⊢;rw[y];refine Y.le.bx k b ?_;rw[<-a3.bx k om];exact h
      · exact(jG (List.getElem?_eq_some_iff.1 h).1 f).trans h
    · by_cases f:j∈ts
      · obtain⟨k,hk,rfl⟩:=List.getElem_of_mem f
        have e1:=nO (n:=H.T.length) hk;rw[getElem?_eq_getElem hk]at e1;have e2:ts[k]=N k:=Option.some.inj e1;rw[e2]at h ⊢;rw[ar];refine Y.le.tk k r ?_;rw[<-a3.tk k om];exact h
      · exact⟨r,(jG (List.getElem?_eq_some_iff.1 h).1 f).trans h, .inl rfl⟩
  refine⟨g', ⟨al,Y.size,Y.os,Y.tape,Y.output,λb aj hn hz=>Y.fr b aj (λh=>hn (af b h)) (λk r hr o=>hz (N k) r (pk k r hr) o),λb o aj hn hz=>Y.frc b o aj (λh=>hn (af b h)) (λk r hr=>hz (N k) r (pk k r hr)),λb o h=> ?_,λb h=> ?_,λj r h b o m=> ?_⟩, ?_,z⟩
  · rcases a4 b o h with h|h|⟨k,r,_,h1,h2⟩
    · exact .inl h
    · exact .inr (.inl h)
    · exact .inr (.inr ⟨N k,r,h1,h2⟩)
  · rcases ae b h with h|h
    · exact .inl h
    · rcases a5 b h with h|h
      · exact .inl (af b h)
      · exact .inr h
  · rcases d j r h with⟨k,rfl,hk⟩|⟨_,_,hj⟩
    · exact a6 k r hk b o m
    · exact .inr ⟨r,hj,m⟩
  · have ay:bs.length<=(B1.map (Ob.ae Q N)).length:=by rw[length_map];omega
    have az:ts.length<=(T1.map (Tok.ae Q N)).length:=WR
    have gB:∀k:Nat,(fA H.B bs (B1.map (Ob.ae Q N)))[Q k]? =(B1.map (Ob.ae Q N))[k]? :=λk=>pH hb ay k
    have gT:∀k:Nat,(fA H.T ts (T1.map (Tok.ae Q N)))[N k]? =(T1.map (Tok.ae Q N))[k]? :=λk=>pH ht az k
    refine⟨?_, ?_,λj b ob h1 h2=> ?_, ?_,λb h o f=> ?_,λj t r h1 h2=> ?_,λj r h b o m=> ?_,λj j' r r' aw h1 h2 b o m a0=> ?_,p.imlt,p.gl⟩
    · show (fA g.bx bs l.bx).length=(fA H.B bs _).length
      rw[mV pb,mV ay,length_map,lB,bg]
    · show (fA g.tk ts l.tk).length=(fA H.T ts _).length
      rw[mV pt,mV az,length_map,lT,bh]
    · rcases oC hb' pb (List.getElem?_eq_some_iff.1 h1).1 with⟨k,hk,e⟩|⟨e1,e2⟩
      · rw[<-a7]at e
        subst e;rw[y]at h1;have u:(B1.map (Ob.ae Q N))[k]? =some ob:=by rw[<-gB];exact h2
        rw[getElem?_map,map_eq_some_iff]at u;obtain⟨bj,e3,rfl⟩:=u;exact(p.ob k b bj h1 e3).ae z
      · have a9:g.bx[j]? =some b:=by rw[<-jG (c:=l.bx) e1 e2];exact h1
        have u:H.B[j]? =some ob:=by rw[<-jG (c:=B1.map (Ob.ae Q N)) om e2];exact h2
        refine(X.ob j b ob a9 u).mono al (Y.fr b (X.be (mem_of_getElem? a9)) (λf=> ?_) (λk r hr o m=>(X.tkz (N k) r (pk k r hr) b o m).2.1 (mem_of_getElem? a9)));obtain⟨k,hk⟩:=getElem?_of_mem f;have v:k<bs.length:=by rw[<-ak];exact(List.getElem?_eq_some_iff.1 hk).1
        have h3:=a3.bx k om;rw[hk]at h3;have:=(getElem?_inj (List.getElem?_eq_some_iff.1 a9).1 X.nodup).1 (a9.trans h3.symm);exact e2 (this▸a8 k v)
    · refine Kg λa b bd av e=> ?_
      have be:a<g'.bx.length:=Nat.lt_trans bd av;rcases oC hb' pb be with⟨k,hk,ea⟩|⟨a1,a2⟩<;>rcases oC hb' pb av with⟨k', aa,eb⟩|⟨b1,b2⟩
      · rw[<-a7]at ea eb
        rw[ea,eb,y,y]at e;have:=(getElem?_inj hk p.nodup).1 e;subst this;omega
      · -- the callee's against an old one
        rw[<-a7]at ea;rw[ea,y,getElem?_eq_getElem hk]at e;have e': g.bx[b]? =some l.bx[k]:=by rw[<-jG (c:=l.bx) b1 b2];exact e.symm
        rcases a5 l.bx[k] (List.getElem_mem hk) with h|h
        · obtain⟨k2,ab⟩:=getElem?_of_mem h
          have ac:k2<bs.length:=by rw[<-ak];exact(List.getElem?_eq_some_iff.1 ab).1
          have h3:=a3.bx k2 om;rw[ab]at h3;have:=(getElem?_inj b1 X.nodup).1 (e'.trans h3.symm);exact b2 (this▸a8 k2 ac)
        · have:=X.be (mem_of_getElem? e');omega
      · rw[<-a7]at eb
        rw[eb,y,getElem?_eq_getElem aa]at e;have e': g.bx[a]? =some l.bx[k']:=by rw[<-jG (c:=l.bx) a1 a2];exact e
        rcases a5 l.bx[k'] (List.getElem_mem aa) with h|h
        · obtain⟨k2,ab⟩:=getElem?_of_mem h
          have ac:k2<bs.length:=by rw[<-ak];exact(List.getElem?_eq_some_iff.1 ab).1
          have h3:=a3.bx k2 om;rw[ab]at h3;have:=(getElem?_inj a1 X.nodup).1 (e'.trans h3.symm);exact a2 (this▸a8 k2 ac)
        · have:=X.be (mem_of_getElem? e');omega
      · have e': g.bx[a]? =g.bx[b]? :=by rw[<-jG (c:=l.bx) a1 a2, <-jG (c:=l.bx) b1 b2];exact e
        have:=(getElem?_inj a1 X.nodup).1 e';omega
    · rcases ae b h with h|h
      · rcases a4 b o f with f|f|⟨k,r,_,h1,h2⟩
        · exact X.noim b h o f
        · have:=X.be h;omega
        · exact(X.tkz _ r h1 b o h2).2.1 h
      · exact p.noim b h o f
    · rcases d j r h1 with⟨k,rfl,hk⟩|⟨e1,e2,hj⟩
      · have u:(T1.map (Tok.ae Q N))[k]? =some t:=by rw[<-gT];exact h2
        rw[getElem?_map,map_eq_some_iff]at u;obtain⟨t0,e3,rfl⟩:=u;exact(p.tok k t0 r hk e3).ae z
      · have u:H.T[j]? =some t:=by rw[<-jG (c:=T1.map (Tok.ae Q N)) om e1];exact h2
        refine(X.tok j t r hj u).mono al λb o m=> ?_
        obtain⟨z1,z2,z3⟩:=ah j r e1 hj b o m;exact(Y.frc b o z1 z2 z3).1
    · rcases d j r h with⟨k,rfl,hk⟩|⟨e1,e2,hj⟩
      · obtain⟨z1,z2,z3,z4⟩:=p.tkz k r hk b o m
        refine⟨z1,λf=> ?_,z3,z4⟩;rcases ae b f with f|f
        · rcases a6 k r hk b o m with h|⟨x,h1,h2⟩
          · have:=X.be f;omega
          · exact(X.tkz _ x h1 b o h2).2.1 f
        · exact z2 f
      · obtain⟨z1,z2,z3,z4⟩:=X.tkz j r hj b o m
        obtain⟨y1,y2,y3⟩:=ah j r e1 hj b o m;have O:=Y.frc b o y1 y2 y3;refine⟨λf=> ?_,λf=> ?_,by rw[O.1];exact z3,O.2.trans z4⟩
        · rcases a4 b o f with f|f|⟨k,x,v,h1,h2⟩
          · exact z1 f
          · omega
          · exact X.tkd j (N k) r x (λe=>e1 (e▸q k v)) hj h1 b o m h2
        · rcases ae b f with f|f
          · exact z2 f
          · rcases a5 b f with f|f
            · exact y2 f
            · omega
    · rcases d j r h1 with⟨k,rfl,hk⟩|⟨e1,e2,hj⟩<;>rcases d j' r' h2 with⟨k', rfl,aa⟩|⟨e1', e2', hj'⟩
      · exact p.tkd k k' r r' (λe=>aw (by rw[e])) hk aa b o m a0
      · rcases a6 k r hk b o m with h|⟨x,h3,h4⟩
        · have:=X.bc hj' a0;omega
        · have v:k<ts.length:=NH ht (by have h9:=(List.getElem?_eq_some_iff.1 h3).1;rw[lT]at h9;exact h9)
          exact X.tkd (N k) j' x r' (λe=>e1' (e▸q k v)) h3 hj' b o h4 a0
      · rcases a6 k' r' aa b o a0 with h|⟨x,h3,h4⟩
        · have:=X.bc hj m;omega
        · have v:k'< ts.length:=NH ht (by have h9:=(List.getElem?_eq_some_iff.1 h3).1;rw[lT]at h9;exact h9)
          exact X.tkd (N k') j x r (λe=>e1 (e▸q k' v)) h3 hj b o h4 m
      · exact X.tkd j j' r r' aw hj hj' b o m a0
end
mutual
def AV.flat:AV->Bool
  | .undef | .bool _ | .int _ _ | .str _ | .nilp | .praw _ | .nilfn | .nili | .nilmap=>true
  | .agg cs=>pS cs
  | .tup cs=>pS cs
  | .slice xs t=>xs.isEmpty&&(match t with | .own _ _=>false|_=>true)
  | .iface _ x=>x.flat
  | .fn _ a b=>pS a&&pS b
  |_=>false
def pS:List AV->Bool
  |[]=>true
  |x::xs=>x.flat&&pS xs
end
mutual
theorem Ab.flat{g g': Gh}{w:World}:∀(x:AV) (v:Value),x.flat=true->Ab g w x v->Ab g' w' x v
  | .undef,_,_,_=>trivial
  | .bool _,_,_,h=>h
  | .int _ _,_,_,h=>h
  | .str _,_,_,h=>h
  | .agg cs,_,O,⟨vs,e,hl,h1⟩=>⟨vs,e,AL.flat cs _ O hl,h1⟩
  | .tup cs,_,O,⟨vs,e,hl⟩=>⟨vs,e,AL.flat cs _ O hl⟩
  | .slice xs t,_,O,⟨a,cap,sz,Vs,e,h1,h2,h3,h4,c,f⟩=>by
    simp only[AV.flat,and_eq_true,List.isEmpty_iff]at O
    obtain⟨rfl,ht⟩:=O
    have d:Vs=[]:=h4
    subst d
    refine⟨a,cap,sz,[],e,h1,h2, ?_,rfl,c,λp hp=>⟨.inr rfl,λi V X=>XI⟩⟩
    cases t with
    |own k z=>cases ht
    |no=>exact h3
    |full=>exact h3
    |nil=>exact h3
    |nn=>exact h3
  | .ptr _ _,_,O,_=>by cases O
  | .ab _,_,O,_=>by cases O
  | .nilp,_,_,h=>h
  | .praw _,_,_,h=>h
  | .fn _ b cs,_,O,⟨vs,ws,e,h1,h2⟩=>by
    simp only[AV.flat,and_eq_true]at O
    exact⟨vs,ws,e,AL.flat b _ O.1 h1,AL.flat cs _ O.2 h2⟩
  | .nilfn,_,_,h=>h
  | .iface _ x,_,O,⟨u,e,h1⟩=>⟨u,e,Ab.flat x _ O h1⟩
  | .nili,_,_,h=>h
  | .map _,_,O,_=>by cases O
  | .nilmap,_,_,h=>h
  | .iter _,_,O,_=>by cases O
  | .view _ _,_,O,_=>by cases O
  | .Y _ _ _ _ _,_,O,_=>by cases O
  | .an _ _ _ _ _,_,O,_=>by cases O
theorem AL.flat{g g': Gh}{w:World}:∀(cs:List AV) (vs:List Value),pS cs=true->AL g w cs vs->AL g' w' cs vs
  |[],_,_,h=>h
  |c::cs,_,O,⟨v,C,e,h1,h2⟩=>by
    simp only[pS,and_eq_true]at O
    exact⟨v,C,e,Ab.flat c _ O.1 h1,AL.flat cs _ O.2 h2⟩
end
def Gh.all(w:World):Gh:=⟨[],[],λb _=>b<w.heap.size⟩
def A1(H:St)(x y:AV):Prop:=∀(g:Gh) (w:World) (v:Value),Inv g H w->Ab g w x v->Ab (Gh.all w) w y v
def Al(H:St)(xs ys:List AV):Prop:=∀(g:Gh) (w:World) (vs:List Value),Inv g H w->AL g w xs vs->AL (Gh.all w) w ys vs
def QF{g:Gh}{H:St}{w:World}(X:Inv g H w):Le ⟨[],[],g.im⟩ w (Gh.all w) w:=⟨λb o h=>⟨X.imlt b o h,rfl⟩,λ_ _ h=>Wm,λ_ _ h=>Wm⟩
theorem Al.nil{H:St}:Al H [] []:=λ_ _ _ _ h=>h
theorem Al.cons{H:St}{x y:AV}{xs ys:List AV}(h:A1 H x y)(hs:Al H xs ys):Al H (x::xs) (y::ys):=λg w _ X ⟨v,C,e,h1,h2⟩=>⟨v,C,e,h g w v X h1,hs g w C X h2⟩
theorem A1.K{H:St}{x:AV}(h:x.K=true):A1 H x x:=λg w v X hr=>Ab.mono (QF X) _ _ (pP (bx:=g.bx) (tk:=g.tk) (im:=g.im) x v h hr)
theorem Al.K{H:St}{xs:List AV}(h:aB xs=true):Al H xs xs:=λg w v X hr=>AL.mono (QF X) _ _ (j6 (bx:=g.bx) (tk:=g.tk) (im:=g.im) xs v h hr)
theorem A1.a6{H:St}{x y z:AV}(h:AC x y)(k:A1 H y z):A1 H x z:=λg w v X hr=>k g w v X (h g w v hr)
theorem A1.Y{H:St}{k n lo X:Nat}{xs ys:List AV}(hT:H.T[k]? =some (.Y xs))(hn:xs.length=n)(h:Al H xs ys):A1 H (.Y k z n lo X) (.slice ((ys.take X).drop lo) .no):=λg w v u hr=>by
  obtain⟨r,Vs,hv⟩:=FH u hr hT hn
  obtain⟨a,cap,rfl,h1,h2,h3,h4,y,r0,t,hz,a3,h6⟩:=hr
  have:r0=r:=Option.some.inj (t.symm.trans hv.hr)
  subst this
  obtain⟨l1,l2,l3⟩:=h6 XO
  have a6:Vs.length=n:=by rw[hv.len,hn]
  refine⟨a,cap-lo,z,(Vs.take X).drop lo, ?_, ?_,om,trivial,((h g w _ u hv.a1).take X).drop lo,λe=> ?_,λq hq=> ?_⟩
  · have:((Vs.take X).drop lo).length=X-lo:=by simp;omega
    rw[this]
  · simp;omega
  · have a2:¬lo<cap:=λO=>by obtain⟨b,o,hh⟩:=y O;rw[e]at hh;cases hh
    have c:(Vs.take X).drop lo=[]:=by apply List.eq_nil_of_length_eq_zero;simp;omega
    exact⟨c,om⟩
  · by_cases m:lo<cap
    · obtain⟨p,hp,a4,f⟩:=l3 m
      rw[hq]at f
      cases f
      refine⟨.inl rfl,λi V hi'=> ?_⟩
      rw[List.getElem?_drop]at hi'
      have hV:Vs[lo+i]? =some V:=by
        rw[List.getElem?_take]at hi'
        split at hi'
        · exact hi'
        · cases hi'
      obtain⟨m1,m2⟩:=(hv.mem p hp).2 (lo+i) V hV
      refine⟨m1,λj x hj=> ?_⟩
      obtain⟨_,l,m4⟩:=m2 j x hj
      have d:p.off+(lo+i) * z+j=p.off+lo * z+i * z+j:=Zj
      rw[d]at l
      refine⟨?_,l,m4⟩
      show p.block<w.heap.size
      unfold World.cell? at l
      cases hb:w.heap[p.block]? with
      |none=>simp[hb]at l
      |some o=>exact(Array.getElem?_eq_some_iff.1 hb).1
    · have c:(Vs.take X).drop lo=[]:=by apply List.eq_nil_of_length_eq_zero;simp;omega
      rw[c]
      exact⟨.inr rfl,λi V X=>XI⟩
section rules
variable {P:Program} {A:Array Oper} {G:Bool} {K:AX->AE->St->Prop} {C:List Oper} {I:List Ak} {s:AE} {H:St}
variable {d:Option Tmp} {R:TypeId} {D:String} {S:Array Edge}
def xO{J c:List AV}{r:AV}(ha:j7 s args.toList some=some J)(hp:AN P f c r)(hl:Al H J c)(hr:r.flat=true)
    (k:AD P A G K C (.all::I) (iJ d r s) H):AD P A G K (⟨d, .call ⟨.value (.func f),args,p⟩,R,D,S,none⟩::C) I s H:=
  bT (t := .all) (σ':= H) rfl (by
    intro g w a next Q i n hn
    have hv:args.toList.map (ev s)=J:=Option.some.inj (g6 _ _ _ ha)
    have j:=jF (g:=g) (w:=w) (s:=s) (a:=a) args.toList (λx Y=>n x Wn)
    rw[hv]at j
    have l:AL ⟨[],[],λb _=>b<w.heap.size⟩ w c (args.map a.eval).toList:=by
      rw[toList_map]
      exact hl g w _ i j
    unfold Oper.wp
    rw[kD hp.1 a w]
    show Calls P f (args.map a.eval) w _
    refine(hp.2.2 (λb _=>b<w.heap.size) w _ (λb o h=>h) (i.gl.mono λb o h=>⟨i.imlt b o h,rfl⟩) l).mono ?_
    rintro e w' ⟨q,h1,h2,u,rfl,h3⟩
    have Y:Ar ⟨[],[],g.im⟩ w ⟨[],[],g.im⟩ w':= by
      refine⟨⟨λb o h=>⟨h,(h1.frc b o (i.imlt b o h) Wa (λk r h=>Wm)).1⟩,λ_ _ h=>Wm,λ_ _ h=>Wm⟩,h1.size,h1.os,h1.tape,h1.output,h1.fr,h1.frc,λb o h => .inl h,λb h=>Wm,λk r h=>Wm⟩
    obtain⟨h4,m⟩:=vK i Y (λb o h=>Nat.lt_of_lt_of_le (i.imlt b o h) h1.size)
    exact hn u w' _ h4 m (Ab.flat _ _ hr h3)) k
def lX{J b:List AV}{B0 B1 B': List Ob}{T0 T1 T': List Tok}{v0 v:AV}{nB nT:Nat}(c ts:List Nat)(ha:j7 s args.toList some=some J)
    (hp:AQ P f b ⟨B0,T0⟩ (λe l=>e = .ret v0/\l=⟨B1,T1⟩)) (a0:H.B.length=nB) (a1:H.T.length=nT) (h:Bo nB c) (j:Bo nT ts) (n:B0.length=c.length) (o:T0.length=ts.length)
    (a2:∀(k i:Nat) (ob:Ob),c[k]? =some i->B0[k]? =some ob->H.B[i]? =some (ob.ae (emb nB c) (emb nT ts))) (a3:∀(k i:Nat) (t:Tok),ts[k]? =some i->T0[k]? =some t->H.T[i]? =some (t.ae (emb nB c) (emb nT ts)))
    (r:aQ c.length ts.length B0=true) (y:aL c.length ts.length T0=true) (z:aE c.length ts.length b=true) (hw:AA J (aW (emb nB c) (emb nT ts) b))
    (hv:v0.ae (emb nB c) (emb nT ts)=v) (m:fA H.B c (B1.map (Ob.ae (emb nB c) (emb nT ts)))=B') (hT': fA H.T ts (T1.map (Tok.ae (emb nB c) (emb nT ts)))=T')
    (k:AD P A G K C (.all::I) (iJ d v s) ⟨B', T'⟩):AD P A G K (⟨d, .call ⟨.value (.func f),args,p⟩,R,D,S,none⟩::C) I s H:=
  bT (t := .all) (σ':= ⟨B', T'⟩) rfl (by
    intro g w a next Q hI ho hn
    subst a0;subst a1
    have a4:args.toList.map (ev s)=J:=Option.some.inj (g6 _ _ _ ha)
    have hl:=jF (g:=g) (w:=w) (s:=s) (a:=a) args.toList (λx Y=>ho x Wn)
    rw[a4]at hl
    obtain⟨p1,p2,p3,p4⟩:=Kh hI h j n o a2 a3 r y
    have q:AL (g.pick c ts) w b (args.map a.eval).toList:=by
      rw[toList_map]
      exact AL.a8 p2 b _ (by rw[p3,p4];exact z) (hw _ _ _ hl)
    unfold Oper.wp
    rw[kD hp.1 a w]
    show Calls P f (args.map a.eval) w _
    refine(hp.2 _ w _ p1 q).mono ?_
    rintro e w' ⟨g1,l,x,h1,h2,h3,rfl,rfl⟩
    obtain⟨u,rfl,hu⟩:=h3
    obtain⟨g', e1,e2,e3⟩:=Ki hI h j p3 p4 p2 h1 h2
    rw[m,hT']at e2
    exact hn u w' g' e1 e2 (by rw[<-hv];exact Ab.ae e3 _ _ hu)) k
def CQ(P:Program)(f:FuncId)(args:List AV)(x:AV):Prop:=
  Az P f/\aB args=true/\∀(im:Nat->Nat->Prop) (w:World) (J:Array Value),(∀b o,im b o->b<w.heap.size)->Aq im w->AL ⟨[],[],im⟩ w args J.toList->
    Calls P f J w λe w'=> ∃im', Ar ⟨[],[],im⟩ w ⟨[],[],im'⟩ w'/\ (∀b o,im' b o->b<w'.heap.size)/\∃u,e = .panicked [{ v:=u,recovered:=false }]/\Ab ⟨[],[],im'⟩ w' x u
def Kj{args:List AV}{r:AV}(O:r.K=true)(ha:aB args=true)(h:AQ P f args ⟨[],[]⟩ (λe _=>e = .pan r)):CQ P f args r:=by
  refine⟨h.1,ha,λim w J c a hl=> ?_⟩;have X:Inv ⟨[],[],im⟩ ⟨[],[]⟩ w:=⟨rfl,rfl,λi b ob h=>Wm,nodup_nil,λb h=>Wm,λk t r h=>Wm,λk r h=>Wm,
    λk m r r' _ h=>Wm,c,a⟩
  refine(h.2 _ w J X hl).mono ?_;rintro e w' ⟨g', σ', x,h1,h2,h3,rfl⟩;obtain⟨u,rfl,j⟩:=h3;obtain⟨g,l,d⟩:=g';exact⟨d,⟨⟨h1.le.im,λi b h=>Wm,λk r h=>Wm⟩,h1.size,h1.os,h1.tape,h1.output,h1.fr,h1.frc,h1.newim,λb h=>Wm,λk r h=>Wm⟩,h2.imlt,u,rfl,pP r u O j⟩
def Tq{J b:List AV}{x:AV}(ha:j7 s args.toList some=some J)(hp:CQ P f b x)(hw:AA J b)
    (k:K (.pan x) s H):AD P A false K (⟨d, .call ⟨.value (.func f),args,p⟩,R,D,S,none⟩::C) I s H:=
  .inr (.inr ⟨rfl,rfl,x,H,(by
    intro g w a next Q i m hn
    have hv:args.toList.map (ev s)=J:=Option.some.inj (g6 _ _ _ ha)
    have hl:=jF (g:=g) (w:=w) (s:=s) (a:=a) args.toList (λx Y=>m x Wn)
    rw[hv]at hl
    have j:AL ⟨[],[],g.im⟩ w b (args.map a.eval).toList:=by
      rw[toList_map]
      exact j6 (bx:=g.bx) (tk:=g.tk) _ _ hp.2.1 (hw _ _ _ hl)
    unfold Oper.wp
    rw[kD hp.1 a w]
    show Calls P f (args.map a.eval) w _
    refine(hp.2.2 g.im w _ i.imlt i.gl j).mono ?_
    rintro e w' ⟨c,h1,h2,u,rfl,h3⟩
    obtain⟨h4,l⟩:=vK i h1 h2
    exact hn u w' _ h4 l (Ab.mono (g:=⟨[],[],c⟩) (w:=w') (g':= ⟨g.bx,g.tk,c⟩) (w':= w') ⟨λ_ _ h=>⟨h,rfl⟩,λ_ _ h=>Wm,λ_ _ h=>Wm⟩ _ _ h3)),k⟩)
def Tr{x:Operand}{t:TypeId}{v:AV}(Y:ev? s x=some (.iface t v))(k:K (.pan (.iface t v)) s H):AD P A false K (⟨d, .panic x,R,D,S,none⟩::C) I s H:=
  .inr (.inr ⟨rfl,rfl, .iface t v,H,(by
    intro g w a next Q c f hn
    have h1:Ab g w (.iface t v) (a.eval x):=by have:=f x Wd;rwa [pR Y]at this
    have h2:=h1
    obtain⟨u,e,h⟩:=h1
    unfold Oper.wp
    have b:(execOp a.eval ⟨d, .panic x,R,D,S,none⟩).run P w = .halt (.panic (.iface t u)) w:=by
      simp[execOp,Instr.panic,e,goPanic]
    rw[b]
    rw[e]at h2
    exact hn _ w g (fD g w) c h2),k⟩)
def Em[Lay P]{d:Tmp}{x:Operand}{v:AV}{f:TI}(hT:ty? P T=some f)(hk:f.kind ≠ .iface)(Y:ev? s x=some v)(k:AD P A G K C (.pure::I) ((d, .iface T v)::s) H):
    AD P A G K (⟨some d, .makeInterface T x,R,D,S,none⟩::C) I s H:=
  bT rfl (eZ λg w a h=>by
    have h1:=op1 Y Wd h
    obtain⟨c,b,z0,t1,t2,i,j,_⟩:=(eK hT).ex
    refine⟨.iface T (a.eval x), ?_,_,rfl,h1⟩
    have:∀ms,b ≠ .interface ms:=λms e=>by subst e;exact hk i.symm
    cases b<;>first|(exact absurd rfl (this _))|simp[execOp,Instr.makeInterface,run_underlying t2,Result.andThen]) k
def En{c:Array (String×TypeId)}(h:P.underlying T=some (.interface c)){u:Value}(a:(u = .nilIface/\b=true)\/(∃t v,u = .iface t v)/\b=false)(n:Nat)(w:World):(Op.equalIn (n+1) T u .nilIface).run P w = .ok b w:=Xk
def NI[Lay P]{d:Tmp}{x:Operand}{v:AV}{j:TI}(hT:ty? P T=some j)(hk:j.kind = .iface)(Y:ev? s x=some v)(hv:(match v with | .nili=>some false | .iface _ _=>some true|_=>none)=some b)(k:AD P A G K C (.pure::I) ((d, .bool b)::s) H):
    AD P A G K (⟨some d, .binOp .neq T x (.const .nilIface) U,R,D,S,none⟩::C) I s H:=
  bT rfl (eZ λg w a m=>by
    have h1:=op1 Y Wd m
    obtain⟨h,c,z0,t1,t2,i,n,_⟩:=(eK hT).ex
    have l:∃ms,c = .interface ms:=Yp
    obtain⟨ms,rfl⟩:=l
    have f:a.eval (.const .nilIface) = .nilIface:=rfl
    refine⟨.bool b, ?_,rfl⟩
    cases v with
    |nili=>
      cases hv
      have e:a.eval x = .nilIface:=h1
      have h3:(Op.equal T .nilIface .nilIface).run P w = .ok true w:=En t2 (.inl ⟨rfl,rfl⟩) 9999 w
      simp[execOp,e,f,eqGuard,Go.binOp,h3,Result.andThen]
    |iface t v=>
      cases hv
      obtain⟨u,e,_⟩:=h1
      have h3:(Op.equal T (.iface t u) .nilIface).run P w = .ok false w:=En t2 (.inr ⟨⟨t,u,rfl⟩,rfl⟩) 9999 w
      simp[execOp,e,f,eqGuard,Go.binOp,h3,Result.andThen]
    |_=>cases hv) k
end rules
def QG(g:Gh)(w:World):Option AV->FrameMode->Prop
  |none,u=>u = .returning
  |some x,u=>∃v,u = .panicking [{ v:=v,recovered:=false }]/\Ab g w x v
def CA(P:Program)(f:FuncId)(caps:List AV)(rec:Option AV)(H σ': St):Prop:=
  Az P f/\∀(g:Gh) (w:World) (J:Array Value) (u:FrameMode),Inv g H w->AL g w caps J.toList->QG g w rec u->
    CallsD P f J u w λe u' w'=> (∃v,e = .returned v)/\settle u' = .returning/\∃g', Ar g w g' w'/\ Inv g' σ' w'
theorem CA.enter{P:Program}{C:Code}{id:Nat}{j q:Nat}{t1 t2:TypeId}{p1 p2:String}{a1 a2:Array Edge}{c:List AV}{i:Option AV}{H σ': St}{N:Nat}(hf:P.funcs[f]? =some fn)
    (hb:fn.body=some (.seq (.region id #[⟨some j, .call ⟨.builtin .recover, #[], #[]⟩,t1,p1,a1,none⟩,⟨some q, .assign (.tmp j),t2,p2,a2,none⟩] false) C)) (hN:fn.ntmps=N)
    (p:(fn.name == "runtime.NumGoroutine")=false) (o:Nat.ble c.length N=true) (hr:Nat.blt j N=true) (Y:Nat.blt q N=true) (r:fn.results = #[]) (al:∀x,i=some x->∃t y,x = .iface t y)
    (h:AB P N [] C (λae s a4=>(ae = .normal\/ae = .ret)/\a4=σ') ((q,i.getD .nili)::(j,i.getD .nili)::cB 0 c) H):CA P f c i H σ':= by
  refine⟨⟨fn,hf,p,Yy⟩,λg w J u X hl hm=> ?_⟩;refine callsD_of_wpS hf hb λb cs O=> ?_
  have a5:c.length<=N:=le_of_ble_eq_true o;have a8:j<N:=le_of_ble_eq_true hr;have ap:q<N:=le_of_ble_eq_true Y;have aj:J.size=c.length:=XC
  let l:Act:={ tmps:=J++Array.replicate (fn.ntmps-J.size) undef,defers:=[] }
  have ac:l.tmps.size=N:=by simp[l];omega
  have a9:A3 g w (cB 0 c) l.tmps:=λt=>by
    rw[kQ];simp only[Nat.not_lt_zero,if_false,Nat.sub_zero];cases e:c[t]? with
    |none=>trivial
    |some v=>
      obtain⟨u,h1,h2⟩:=hl.get e;have:l.tmps.getD t undef=u:=by rw[getElem?_toList]at h1;have hlt:=(Array.getElem?_eq_some_iff.1 h1).1;simp only[Array.getD_eq_getD_getElem?, l];rw[Array.getElem?_append_left hlt,h1];rfl
      rw[this];exact h2
  obtain⟨x,k,a3,m,a7⟩:∃x k,Ab g w (i.getD .nili) x/\settle k = .returning/\
      ((recoverD (b::cs)=none/\x = .nilIface/\({ b with mode:=k }:Frame)=b)\/recoverD (b::cs)=some (x,{ b with mode:=k }::cs)):=by
    cases i with
    |none=>have hu:u = .returning:=hm;subst hu;exact⟨.nilIface, .returning,rfl,rfl, .inl ⟨by simp[recoverD,O],rfl,by rw[<-O]⟩⟩
    |some y=>obtain⟨v,hu,hv⟩:=hm;exact⟨v, .panicking [{ v:=v,recovered:=true }],hv,rfl, .inr (by simp[recoverD,O,hu])⟩
  refine wpS_seq (wpS_region ?_);have e1:∀a:Act,(execOp a.eval ⟨some j, .call ⟨.builtin .recover, #[], #[]⟩,t1,p1,a1,none⟩).run P w = .ok .recover w:=by intro a;simp[execOp,resolve,invoke,builtin]
  show wpOpsS P _ _ [0,1] l (b::cs) w;unfold wpOpsS;simp only[List.getElem?_toArray,List.getElem?_cons_zero,Region.wanted,if_true,e1];have e2:∀a:Act,(execOp a.eval ⟨some q, .assign (.tmp j),t2,p2,a2,none⟩).run P w = .ok (.value (a.eval (.tmp j))) w:=λa=>rfl
  have aa:=a9.put (d:=j) (v:=i.getD .nili) (u:=x) om a3;have n:(l.put (some j) x).eval (.tmp j)=x:=by simp[Act.eval,Act.put,ac,a8]
  have ab:=aa.put (d:=q) (v:=i.getD .nili) (u:=x) (by simp[Act.put];omega) a3;have fin:C.wpS P (bodyPostS P fn b cs λe k w'=> (∃v,e=Ending.returned v)/\settle k=FrameMode.returning/\∃g', Ar g w g' w'/\ Inv g' σ' w') ((l.put (some j) x).put (some q) x) ({ b with mode:=k }::cs) w:=by
    refine wpS_of_wp ?_;refine wp_mono (h g w _ X ab (by simp[Act.put];omega) rfl) ?_;rintro e a' w' ⟨ae,s', a4,g', h1,h2,h3,h4,h5,h6,h7,rfl⟩;have z:(results fn a'.tmps).run P w' = .ok (.tuple #[]) w':= by simp[results,r]
    rcases h7 with rfl|rfl
    · cases (show e = .normal from h1)
      exact⟨h3,k,rfl,_,z,⟨_,rfl⟩,m,g', h4,h5⟩
    · cases (show e = .ret from h1)
      exact⟨h3,k,rfl,_,z,⟨_,rfl⟩,m,g', h4,h5⟩
  rcases a7 with⟨q1,rfl,q2⟩|q1
  · rw[q2]at fin
    simp only[q1];unfold wpOpsS;simp only[List.getElem?_toArray,List.getElem?_cons_succ,List.getElem?_cons_zero,Region.wanted,if_true,e2,Oper.upon_value,n];unfold wpOpsS;exact fin
  · simp only[q1]
    unfold wpOpsS;simp only[List.getElem?_toArray,List.getElem?_cons_succ,List.getElem?_cons_zero,Region.wanted,if_true,e2,Oper.upon_value,n];unfold wpOpsS;exact fin
section
variable {P:Program} [Lay P]
def aD0(P:Program)[Lay P](rs:List ResultVar)(fd:FuncId)(caps:List AV)(o:Av->St->Prop):AX->AE->St->Prop
  | .normal=>λs H=>∃σ', CA P fd caps none H σ'/\ ∃v,resK? P s σ' rs nK=some v/\o (.ret v) σ'
  | .ret=>λs H=>∃σ', CA P fd caps none H σ'/\ ∃v,resK? P s σ' rs nK=some v/\o (.ret v) σ'
  | .pan x=>λs H=>∃σ', CA P fd caps (some x) H σ'/\ ∃v,resK? P s σ' rs nK=some v/\o (.ret v) σ'
  |_=>λ_ _=>False
def O8{c:FuncId}{c0 C:Code}{id d:Nat}{b:Array Operand}{t1 t2:TypeId}{p1 p2:String}{a1 a2:Array Edge}{args:List AV}{H:St}(rs:List ResultVar){N:Nat}
    (hf:P.funcs[f]? =some fn) (hb:fn.body=some (.seq c0 (.seq (.region id #[⟨some d, .makeFunc (.func c) #[] b,t1,p1,a1,none⟩,⟨none, .defer ⟨.value (.tmp d), #[], #[]⟩,t2,p2,a2,none⟩] false) C))) (hN:fn.ntmps=N)
    (k:(fn.name == "runtime.NumGoroutine")=false) (i:Nat.ble args.length N=true) (af:Nat.blt d N=true) (y:fn.results=rs.toArray)
    (h:AB P N [] c0 (λae s a0=>ae = .normal/\∃cv,j7 s b.toList some=some cv/\Az P c/\∀D,AB P N D C (aD0 P rs c cv o) ((d, .fn (.func c) [] cv)::s) a0) (cB 0 args) H):AQ P f args H o:=by
  refine⟨⟨fn,hf,k,Yy⟩,λg w J X hl=> ?_⟩;have a4:args.length<=N:=le_of_ble_eq_true i;have z:d<N:=le_of_ble_eq_true af;have al:J.size=args.length:=XC
  refine calls_of_wp_defers hf hb (wp_seq (wp_mono (h g w _ X (λt=> ?_) ?_ rfl) ?_))
  · rw[kQ]
    simp only[Nat.not_lt_zero,if_false,Nat.sub_zero];cases e:args[t]? with
    |none=>trivial
    |some v=>
      obtain⟨u,h1,h2⟩:=hl.get e;have:(J++Array.replicate (fn.ntmps-J.size) undef).getD t undef=u:=by rw[getElem?_toList]at h1;have hlt:=(Array.getElem?_eq_some_iff.1 h1).1;simp only[Array.getD_eq_getD_getElem?];rw[Array.getElem?_append_left hlt,h1];rfl
      rw[this];exact h2
  · simp;omega
  · rintro e a w1 ⟨ae,s1,a0,g1,h1,h2,h3,h4,h5,h6,rfl,cv,h7,hcall,h8⟩
    cases (show e = .normal from h1);refine wp_seq (wp_region_list ?_);have aa:b.toList.map (ev s1)=cv:=Option.some.inj (g6 _ _ _ h7);have p:AL g1 w1 cv (b.map a.eval).toList:=by rw[<-aa,toList_map];exact jF _ λx _=>Fy h5.gl h6 x
    let fv:Value := .func (.func c) #[] (b.map a.eval)
    have ab:Ab g1 w1 (.fn (.func c) [] cv) fv:=⟨#[],_,rfl,rfl,p⟩;have e1:(execOp a.eval ⟨some d, .makeFunc (.func c) #[] b,t1,p1,a1,none⟩).run P w1 = .ok (.value fv) w1:=by simp[execOp,Instr.makeFunc,fv]
    have r:(a.put (some d) fv).eval (.tmp d)=fv:=by simp[Act.eval,Act.put,h2,z]
    have e2:(execOp (a.put (some d) fv).eval ⟨none, .defer ⟨.value (.tmp d), #[], #[]⟩,t2,p2,a2,none⟩).run P w1 = .ok (.defer { target := .fn (.func c) (b.map a.eval),args := #[] }) w1:=by simp only[execOp,resolve,r];simp[fv,Deferred.ofValue]
    unfold wpList;rw[show Region.wanted (⟨some d, .makeFunc (.func c) #[] b,t1,p1,a1,none⟩:Oper) _=true from rfl,if_pos rfl];refine .inl ?_;unfold Oper.wp;rw[e1,Oper.upon_value];unfold wpList;rw[show Region.wanted (⟨none, .defer ⟨.value (.tmp d), #[], #[]⟩,t2,p2,a2,none⟩:Oper) _=true from rfl,if_pos rfl];refine .inl ?_;unfold Oper.wp;rw[e2,Oper.upon_defer];unfold wpList
    let d0:Deferred:={ target := .fn (.func c) (b.map a.eval),args := #[] }
    have ad:A3 g1 w1 ((d, .fn (.func c) [] cv)::s1) (a.put (some d) fv).tmps:=h6.put om ab;have a9:a.defers=[]:=h3;refine wp_mono (h8 [d0] g1 w1 _ h5 ad (by simpa [Act.put]using h2) (by simp[Act.put,a9,d0])) ?_;rintro e a' w2 ⟨ae,s2,σ2,g2,k1,k2,k3,k4,k5,k6,k7⟩;have j:AL g2 w2 cv (b.map a.eval).toList:=AL.mono k4.le _ _ p;have q:(invoke (.fn (.func c) (b.map a.eval)) #[]).run P w2 = .ok (.enter c (b.map a.eval)) w2:=by simp only[invoke,Array.empty_append];exact s9 hcall _ w2
    have m:∀(n:Option AV) (u:FrameMode),u ≠ .run->QG g2 w2 n u->(∃σ', CA P c cv n σ2 σ'/\ ∃v,resK? P s2 σ' rs nK=some v/\o (.ret v) σ')->
        Leaves P fn a'.tmps (λe w'=> ∃g' σ' x,Ar g w g' w'/\ Inv g' σ' w'/\ Qp g' w' x e/\o x σ') a'.defers u w2:=by
      rintro n u hu hm ⟨σ', hd,v,hv,hpost⟩;rw[k3];refine leaves_cons hu q ((hd.2 g2 w2 _ u k5 j hm).mono ?_);rintro e u' w' ⟨⟨v', rfl⟩,hset,g', x1,x2⟩;show Leaves P fn a'.tmps _ [] (settle u') w';rw[hset];have ac:=k6.mono x1.le;obtain⟨vs,Vs,r1,r2,r3⟩:=xL x2 ac rs _ v hv;exact⟨_,tB y r3,g', σ', .ret v,(h4.trans k4).trans x1,x2,⟨_,rfl,vP r1 r2⟩,hpost⟩
    cases ae with
    |normal=>cases (show e = .normal from k1);exact m none .returning Wa rfl k7
    |ret=>cases (show e = .ret from k1);exact m none .returning Wa rfl k7
    |exit id=>exact k7.elim
    |goto l=>exact k7.elim
    |pan x=>obtain⟨u,rfl,hu⟩:=k1;exact m (some x) _ Wa ⟨u,rfl,hu⟩ k7
end
mutual
theorem iN{Q N:Nat->Nat}{n m:Nat}(hb:∀i,i<n->Q i=i)(ht:∀k,k<m->N k=k):∀x:AV,x.aa n m=true->x.ae Q N=x
  | .undef,_=>by rw[AV.ae]
  | .bool _,_=>by rw[AV.ae]
  | .int _ _,_=>by rw[AV.ae]
  | .str _,_=>by rw[AV.ae]
  | .agg cs,h=>by rw[AV.ae,dX hb ht cs W3]
  | .tup cs,h=>by rw[AV.ae,dX hb ht cs W3]
  | .slice xs t,h=>by
    simp only[AV.aa,and_eq_true]at h
    rw[AV.ae,dX hb ht xs h.2]
    cases t with
    |own k z=>rw[Tk.ae,ht k (le_of_ble_eq_true h.1)]
    |no=>rfl
    |full=>rfl
    |nil=>rfl
    |nn=>rfl
  | .ptr i _,h=>by rw[AV.ae,hb i W3]
  | .ab x,h=>by rw[AV.ae,iN hb ht x W3]
  | .nilp,_=>by rw[AV.ae]
  | .praw _,_=>by rw[AV.ae]
  | .fn _ a b,h=>by
    simp only[AV.aa,and_eq_true]at h
    rw[AV.ae,dX hb ht a h.1,dX hb ht b h.2]
  | .nilfn,_=>by rw[AV.ae]
  | .iface _ x,h=>by rw[AV.ae,iN hb ht x W3]
  | .nili,_=>by rw[AV.ae]
  | .map i,h=>by rw[AV.ae,hb i W3]
  | .nilmap,_=>by rw[AV.ae]
  | .iter i,h=>by rw[AV.ae,hb i W3]
  | .view xs _,h=>by rw[AV.ae,dX hb ht xs W3]
  | .Y k _ _ _ _,h=>by rw[AV.ae,ht k W3]
  | .an k _ _ _ _,h=>by rw[AV.ae,ht k W3]
theorem dX{Q N:Nat->Nat}{n m:Nat}(hb:∀i,i<n->Q i=i)(ht:∀k,k<m->N k=k):∀xs:List AV,aE n m xs=true->aW Q N xs=xs
  |[],_=>by rw[aW]
  |x::xs,h=>by
    simp only[aE,and_eq_true]at h
    rw[aW,iN hb ht x h.1,dX hb ht xs h.2]
end
theorem I9{Q N:Nat->Nat}{n m:Nat}(hb:∀i,i<n->Q i=i)(ht:∀k,k<m->N k=k){t:Tok}(h:t.aa n m=true):t.ae Q N=t:=by
  cases t with
  |len n=>rfl
  |Y xs=>rw[Tok.ae,dX hb ht xs h]
theorem mJ{Q N:Nat->Nat}{n m:Nat}(hb:∀i,i<n->Q i=i)(ht:∀k,k<m->N k=k):∀T:List Tok,aL n m T=true->T.map (Tok.ae Q N)=T
  |[],_=>rfl
  |t::T,h=>by
    simp only[aL,and_eq_true]at h
    rw[List.map_cons,I9 hb ht h.1,mJ hb ht T h.2]
section rules
variable {P:Program} {A:Array Oper} {G:Bool} {K:AX->AE->St->Prop} {C:List Oper} {I:List Ak} {s:AE} {H:St}
variable {d:Option Tmp} {R:TypeId} {D:String} {S:Array Edge}
theorem pI{α:Type}(l c:List α):fA l [] c=l++c:=by unfold fA;rw[List.length_nil,List.drop_zero];cases c<;>rfl
def jW{J a:List AV}{T1:List Tok}{v:AV}{B:List Ob}(hσ:H=⟨B,[]⟩)(ha:j7 s args.toList some=some J)
    (hp:AQ P f a ⟨[],[]⟩ (λe g=>e = .ret v/\g=⟨[],T1⟩)) (O:aB a=true) (hw:AA J a) (hv:v.aa 0 T1.length=true) (hT:aL 0 T1.length T1=true)
    (k:AD P A G K C (.all::I) (iJ d v s) ⟨B,T1⟩):AD P A G K (⟨d, .call ⟨.value (.func f),args,p⟩,R,D,S,none⟩::C) I s H:=by
  subst hσ;have c:∀k,k<T1.length->emb 0 [] k=k:=λk _=>by simp[emb]
  have b:∀i,i<0->emb B.length [] i=i:=λi h=>om
  refine lX (nB:=B.length) (nT:=0) (B0:=[]) (T0:=[]) (B1:=[]) (T1:=T1) (v0:=v) [] [] ha hp rfl rfl ⟨nodup_nil,Wa⟩ ⟨nodup_nil,Wa⟩ rfl rfl (λk i ob h=>Wm) (λk i t h=>Wm) rfl rfl
    (aC _ _ _ O) (by rw[aS _ _ _ O];exact hw) (iN b c v hv) (B':= B) (T':= T1) ?_ ?_ k
  · rw[pI];simp
  · rw[pI,mJ b c T1 hT];rfl
def Ja{J a:List AV}{xs ys:List AV}{v0 v:AV}{nT:Nat}{T': List Tok}(j:Nat)(hp:AQ P f a ⟨[],[.Y xs]⟩ (λe m=>e = .ret v0/\m=⟨[],[.Y ys]⟩))(Y:aB xs=true)(hy:aB ys=true)(l:aE 0 1 a=true)(hv:v0.ae (emb H.B.length []) (emb nT [j])=v)(k:AD P A G K C (.all::I) (iJ d v s) ⟨H.B,T'⟩)(ha:j7 s args.toList some=some J:=by exact rfl)(b:H.T.length=nT:=by exact rfl)(hj:H.T[j]? =some (.Y xs):=by exact rfl)(hw:AA J (aW (emb H.B.length []) (emb nT [j]) a):=by exact aD _)(hT': j5 j (.Y ys) H.T some=some T':= by exact rfl):AD P A G K (⟨d, .call ⟨.value (.func f),args,p⟩,R,D,S,none⟩::C) I s H:=by
  have g:j<nT:=by rw[<-b];exact(List.getElem?_eq_some_iff.1 hj).1
  refine lX (nB:=H.B.length) (nT:=nT) (B0:=[]) (T0:=[.Y xs]) (B1:=[]) (T1:=[.Y ys]) (v0:=v0) [] [j] ha hp rfl b ⟨nodup_nil,Wa⟩ ⟨Wa,by simpa using g⟩ rfl rfl (λk i ob h=>Wm) (λk i t h ht=> ?_) rfl
    (by simp only[List.length_nil,List.length_cons,aL,Tok.aa,Bool.and_true];exact aC _ _ _ Y) l hw hv (B':= H.B) (T':= T') ?_ ?_ k
  · cases k with
    |zero=>simp at h ht;subst h;subst ht;rw[Tok.ae,aS _ _ _ Y];exact hj
    |succ k=>simp at h
  · rw[pI];simp
  · obtain⟨_,c⟩:=d6 _ _ _ _ _ hT'
    rw[<-Option.some.inj c];simp[fA,upd,Tok.ae,aS _ _ _ hy]
end rules
theorem AQ.mono{P:Program}{args:List AV}{H:St}{post': Av->St->Prop}(h:AQ P f args H o)(hp:∀e σ', o e σ'-> post' e σ'):AQ P f args H post':=
  ⟨h.1,λg w J X hl=>(h.2 g w J X hl).mono λe w' ⟨g', σ', x,h1,h2,h3,h4⟩=>⟨g', σ', x,h1,h2,h3,hp _ _ h4⟩⟩
def QH{xs ys b c:List AV}(h:AA xs b)(k:AA ys c):AA (xs++ys) (b++c):=λg w vs hv=>by
  have d:∀(xs:List AV) (vs:List Value),AL g w (xs++ys) vs->∃a v2,vs=a++v2/\AL g w xs a/\AL g w ys v2:=by
    intro xs
    induction xs with
    |nil=>intro vs h;exact⟨[],vs,rfl,rfl,h⟩
    |cons x xs E=>
      intro vs h
      obtain⟨v,C,rfl,h1,h2⟩:=h
      obtain⟨a,v2,rfl,h3,h4⟩:=E C h2
      exact⟨v::a,v2,rfl,⟨v,a,rfl,h1,h3⟩,h4⟩
  obtain⟨a,v2,rfl,h1,h2⟩:=d xs vs hv
  exact(h g w a h1).append (k g w v2 h2)
def O9{P:Program}{args:List AV}{H b:St}{c:AV}(h:AQ P f args H (λe a=>∃v,e = .ret v/\AJ a v b c)):AQ P f args H (λe a=>e = .ret c/\a=b):=
  ⟨h.1,λg w J X hl=>(h.2 g w J X hl).mono λe w' ⟨g', σ', x,h1,h2,h3,v,e1,h4⟩=>by
    subst e1
    obtain⟨u,rfl,i⟩:=h3
    obtain⟨d,j,k,l⟩:=h4 g' w' u h2 i
    exact⟨d,b, .ret c,h1.trans j,k,⟨u,rfl,l⟩,rfl,rfl⟩⟩
theorem kV{P:Program}{args:List AV}{H:St}(h:AQ P f args H (λe a=>∃v nB mT,e = .ret v/\H.B.length<=nB/\H.T.length<=mT/\v.aa nB mT=true/\aQ nB mT (a.B.take nB)=true/\aL nB mT (a.T.take mT)=true/\o (.ret v) ⟨a.B.take nB,a.T.take mT⟩)):AQ P f args H o:=
  ⟨h.1,λg w J X hl=>(h.2 g w J X hl).mono λe w' ⟨g', σ', x,h1,h2,h3,v,nB,mT,e1,l1,l2,h4,h5,h6,h7⟩=>by
    subst e1
    obtain⟨u,rfl,b⟩:=h3
    exact⟨g'.bd nB mT,_, .ret v,rQ h1 (by rw[X.lenB];exact l1) (by rw[X.lenT];exact l2),pF h2 h5 h6,⟨u,rfl,Ab.aa v u h4 b⟩,h7⟩⟩
theorem CA.c1{P:Program}{a:List AV}{b:Option AV}{H σ': St}(h:CA P f a b H σ'):Az P f:=h.1
section
variable {P:Program} {A:Array Oper} {G:Bool} {K:AX->AE->St->Prop} {C:List Oper} {I:List Ak} {s:AE} {H:St}
variable {d:Tmp} {R:TypeId} {D:String} {S:Array Edge}
def J9{x y:Operand}{n r:Int}(Y:ev? s x=some (.int k m))(hy:ev? s y=some (.int e n))(hn:0<=n)(hr:m.fdiv (2 ^ min n.toNat k.bits)=r)
    (c:AD P A G K C (.pure::I) ((d, .int k r)::s) H):AD P A G K (⟨some d, .binOp .shr T x y U,R,D,S,none⟩::C) I s H:=
  fE Y hy (λg w a b ha hb=>WV) c
def U1{x y:Operand}{n r:Int}(Y:ev? s x=some (.int k m))(hy:ev? s y=some (.int e n))(hn:0<=n)(hr:k.wrap (m * 2 ^ min n.toNat k.bits)=r)
    (c:AD P A G K C (.pure::I) ((d, .int k r)::s) H):AD P A G K (⟨some d, .binOp .shl T x y U,R,D,S,none⟩::C) I s H:=
  fE Y hy (λg w a b ha hb=>WV) c
def ND{x y:Operand}{n r:Int}(Y:ev? s x=some (.int k m))(hy:ev? s y=some (.int k n))(hn:n≠0)(hr:k.wrap (m.tdiv n)=r)
    (c:AD P A G K C (.pure::I) ((d, .int k r)::s) H):AD P A G K (⟨some d, .binOp .quo T x y U,R,D,S,none⟩::C) I s H:=
  fE Y hy (λg w a b ha hb=>Xa) c
def Ka{x y:Operand}{n r:Int}(Y:ev? s x=some (.int k m))(hy:ev? s y=some (.int k n))(hn:n≠0)(hr:m.tmod n=r)
    (c:AD P A G K C (.pure::I) ((d, .int k r)::s) H):AD P A G K (⟨some d, .binOp .rem T x y U,R,D,S,none⟩::C) I s H:=
  fE Y hy (λg w a b ha hb=>Xa) c
def VA{x:Operand}(Y:ev? s x=some (.int .u64 m))(hr:m/2=r)
    (a:AD P A G K C (.pure::I) ((d, .int .u64 r)::s) H):AD P A G K (⟨some d, .binOp .shr T x (.const (.int .u64 1)) U,R,D,S,none⟩::C) I s H:=
  J9 Y rfl Wc (by show m.fdiv 2=r;rw[<-hr,Int.fdiv_eq_ediv_of_nonneg _ Wc]) a
def NE{x y:Operand}{n r:Int}(Y:ev? s x=some (.int .i64 m))(hy:ev? s y=some (.int .i64 n))(hr:m * n=r)(hb : -9223372036854775808<=r/\r<=9223372036854775807)
    (a:AD P A G K C (.pure::I) ((d, .int .i64 r)::s) H):AD P A G K (⟨some d, .binOp .mul T x y U,R,D,S,none⟩::C) I s H:=
  aBd Y hy XL
def FB{args:List AV}{r:AV}{b:Prop}(O:Az P f)(ha:aB args=true)(hb:∀(g:Gh) (w:World) (vs:List Value),AL g w args vs->b)(h:b->AN P f args r):AN P f args r:=
  ⟨O,ha,λim w J c a hl=>(h (hb _ _ _ hl)).2.2 im w J c a hl⟩
def I6{g:Gh}{w:World}{xs:List AV}{t:Tk}(h:Ab g w (.slice xs t) v):xs.length<=maxLen:=by obtain⟨a,cap,sz,Vs,e,h1,h2,h3,h4,_⟩:=h;have:=h4.length;omega
variable [Lay P]
def Kb{a:TypeDesc}(h:tD a = .int k):a = .int k:=by
  cases a with
  |int b=>simpa [tD]using h
  |_=>simp[tD]at h
def Ej{a:TypeDesc}(h:tD a = .string):a = .string:=by
  cases a with
  |string=>rfl
  |_=>simp[tD]at h
def gE{x:Operand}{b:IntKind}{n:Int}{j c:TI}(hT:ty? P T=some j)(e:ty? P U=some c)(hk:c.kind = .int k)(Y:ev? s x=some (.int b n))(hr:k.wrap n=r)
    (i:AD P A G K C (.pure::I) ((d, .int k r)::s) H):AD P A G K (⟨some d, .convert T U x,R,D,S,none⟩::C) I s H:=
  bT rfl (eZ λg w a h=>by have h1:a.eval x = .int b n:=op1 Y Wd h;obtain⟨_,o,_,_,t2,_⟩:=(eK hT).ex;obtain⟨_,p,_,_,l,m,_⟩:=(eK e).ex;have f:=Kb (m.trans hk);subst f;refine⟨.int k r, ?_,rfl⟩;subst hr;simp[execOp,Go.convert,h1,run_underlying t2,run_underlying l,Result.andThen,Conv.intToInt]) i
def cR{x:Operand}{lo X:Option Operand}{ys:List UInt8}{nl nh:Int}(l h:Nat)(k:AD P A G K C (.pure::I) ((d, .str ys)::s) H)(hT:ty? P T=some ti:=by exact rfl)(Y:ev? s x=some (.str xs):=by exact rfl)(hk:ti.kind = .string:=by exact rfl)(hl:bnd? s lo 0=some nl:=by exact rfl)(hh:bnd? s X xs.length=some nh:=by exact rfl)(el:nl=(l:Int):=by exact rfl)(eh:nh=(h:Int):=by exact rfl)(h1:l<=h:=by omega)(h2:h<=xs.length:=by omega)(hy:(xs.take h).drop l=ys:=by rw[List.take_length]):AD P A G K (⟨some d, .slice T x lo X none,R,D,S,none⟩::C) I s H:=
  bT rfl (eZ λg w a q=>by
    have c:a.eval x = .string ⟨xs.toArray⟩:=op1 Y Wd q
    obtain⟨_,v,_,_,t2,u,_⟩:=(eK hT).ex
    have t:=Ej (u.trans hk)
    subst t
    have b:(⟨xs.toArray⟩:ByteArray).size=xs.length:=XF
    have f:(⟨xs.toArray⟩:ByteArray).extract l h=⟨ys.toArray⟩:=by
      apply ByteArray.ext
      simp[<-hy,List.drop_take]
    refine⟨.string ⟨ys.toArray⟩, ?_,rfl⟩
    have m:∀y,X=some y->(Instr.sliceBound (a.eval y) xs.length .sliceAlen).run P w = .ok h w:=λy e=>by
      subst e;exact nP hh eh h2 (q y Wd)
    have p:∀y,lo=some y->(Instr.sliceBound (a.eval y) h .sliceB).run P w = .ok l w:=λy e=>by
      subst e;exact nP hl el h1 (q y (by cases X<;>simp[Op.operands]))
    have h0:lo=none->l=0:=by
      intro n
      subst n
      have:(0:Int)=nl:=Option.some.inj hl
      omega
    have j:X=none->h=xs.length:=by
      intro n
      subst n
      have:(xs.length:Int)=nh:=Option.some.inj hh
      omega
    cases lo with
    |none=>
      have o:=h0 rfl
      subst o
      cases X with
      |none=>
        have i:=j rfl
        subst i
        have r:xs=ys:=YY
        simp[execOp,c,Instr.sliceAt,run_underlying t2,Result.andThen,Instr.slice,Instr.sliceBounds,b,r]
      |some y=>
        have:=m y rfl
        simp[execOp,c,Instr.sliceAt,run_underlying t2,Result.andThen,Instr.slice,Instr.sliceBounds,b,f,this]
    |some z=>
      have hz:=p z rfl
      cases X with
      |none=>
        have i:=j rfl
        subst i
        simp[execOp,c,Instr.sliceAt,run_underlying t2,Result.andThen,Instr.slice,Instr.sliceBounds,b,f,hz]
      |some y=>
        have:=m y rfl
        simp[execOp,c,Instr.sliceAt,run_underlying t2,Result.andThen,Instr.slice,Instr.sliceBounds,b,f,hz,this]) k
end
open Go Go.MapKept
def vT(k:List UInt8):List (AV×AV)->Option AV
  |[]=>none
  |(.str s,v)::l=>if s=k then some v else vT k l
  |_::l=>vT k l
def Cf(k:List UInt8)(x:AV):List (AV×AV)->List (AV×AV)
  |[]=>[(.str k,x)]
  |(.str s,v)::l=>if s=k then (.str k,x)::l else (.str s,v)::Cf k x l
  |p::l=>p::Cf k x l
def xN:List (AV×AV)->Bool
  |[]=>true
  |(.str _,_)::l=>xN l
  |_=>false
theorem Kc(a b:List UInt8):((⟨a.toArray⟩:ByteArray)==⟨b.toArray⟩)=decide (a=b):=by rw[Bool.eq_iff_iff,bytes_beq];simp
def FC{g:Gh}{w:World}{k:List UInt8}:∀ {es:List (AV×AV)} {l:List MapEntry} (i:Nat),Au g w es l->xN es=true->
    (Instr.findNow .string (.string ⟨k.toArray⟩) l i=some none/\vT k es=none/\∀x,Cf k x es=es++[(.str k,x)])\/
    ∃j e x,Instr.findNow .string (.string ⟨k.toArray⟩) l i=some (some (i+j,e.val))/\l[j]? =some e/\e.key = .string ⟨k.toArray⟩/\vT k es=some x/\Ab g w x e.val/\j<es.length/\∀y,Cf k y es=es.set j (.str k,y)
  |[],_,i,h,_=>by
    rw[show _=[] from h]
    exact .inl ⟨rfl,rfl,λx=>rfl⟩
  |(.str s,v)::es,_,i,⟨e,C,he,h1,h2,h3⟩,hs=>by
    subst he
    have hk:e.key = .string ⟨s.toArray⟩:=h1
    by_cases a:s=k
    · subst a
      refine .inr ⟨0,e,v, ?_,rfl,hk,by simp[vT],h2,Wa,λy=>by simp[Cf]⟩
      simp[Instr.findNow,Instr.sameNow,hk,Kc]
    · have hf:Instr.sameNow .string (.string ⟨k.toArray⟩) e.key=some false:=by
        simp[Instr.sameNow,hk,Kc,Ne.symm a]
      rcases FC (k:=k) (i+1) h3 hs with⟨b,c,d⟩|⟨j,e', x,b,c,d,f4,f5,f6,f7⟩
      · exact .inl ⟨by simp[Instr.findNow,hf,b],by simp[vT,a,c],λx=>by simp[Cf,a,d]⟩
      · refine .inr ⟨j+1,e', x, ?_,WY,d,by simp[vT,a,f4],f5,by simpa using f6,λy=>by simp[Cf,a,f7]⟩
        simp[Instr.findNow,hf,b]
        omega
def Au.snoc{g:Gh}{w:World}{e:MapEntry}{k v:AV}(hk:Ab g w k e.key)(hv:Ab g w v e.val):∀ {es:List (AV×AV)} {l:List MapEntry},Au g w es l->Au g w (es++[(k,v)]) (l++[e])
  |[],_,h=>by rw[show _=[] from h];exact⟨e,[],rfl,hk,hv,rfl⟩
  |(_,_)::es,_,⟨a,C,he,h1,h2,h3⟩=>by subst he;exact⟨a,_,rfl,h1,h2,Au.snoc hk hv h3⟩
theorem Au.put{g:Gh}{w:World}{e:MapEntry}{k v:AV}(hk:Ab g w k e.key)(hv:Ab g w v e.val):∀ {es:List (AV×AV)} {l:List MapEntry} (j:Nat),Au g w es l->Au g w (es.set j (k,v)) (l.set j e)
  |[],_,j,h=>by rw[show _=[] from h];simp[Au]
  |(_,_)::es,_,0,⟨a,C,he,h1,h2,h3⟩=>by subst he;exact⟨e,C,rfl,hk,hv,h3⟩
  |(_,_)::es,_,j+1,⟨a,C,he,h1,h2,h3⟩=>by subst he;exact⟨a,_,rfl,h1,h2,Au.put hk hv j h3⟩
def Dv(w:World)(b:Nat)(o:Obj):World:={ w with heap:=w.heap.setIfInBounds b o }
theorem pG(w:World){b c:Nat}(h:c≠b)(o:Obj):(Dv w b o).heap[c]? =w.heap[c]? :=by grind[Dv]
def QA(w:World){b:Nat}(h:b<w.heap.size)(o:Obj):(Dv w b o).heap[b]? =some o:=by grind[Dv]
def HN{g:Gh}{H:St}{w:World}(X:Inv g H w){b:Nat}(hb:g.bx[i]? =some b){o:Obj}{ob n:Ob}(l:H.B[i]? =some n)
    (u:∀w', Le g w g w'-> w'.heap[b]? =some o->BJ g w' b ob):Ar g w g (Dv w b o)/\Inv g ⟨H.B.set i ob,H.T⟩ (Dv w b o):=by
  have hlt:=X.be (mem_of_getElem? hb);have a:=mem_of_getElem? hb;have d:Le g w g (Dv w b o):=⟨λc p h=>by
    have f:c≠b:=λe=>X.noim b a p (e▸h)
    exact⟨h,(cF (pG w f o)).1⟩,λ_ _ h=>h,λk r h=>⟨r,h, .inl rfl⟩⟩
  refine⟨⟨d,by simp[Dv],rfl,rfl,rfl,λc O hn _=>pG w (λe=>hn XA) o,λc p O hn _=>cF (pG w (λe=>hn XA) o),λ_ _ h => .inl h,λ_ h => .inl h,λk r h c p hp => .inr ⟨r,h,hp⟩⟩, ?_⟩;refine⟨by simp[X.lenB],X.lenT,λj c m h2 h3=> ?_,X.nodup,X.noim,λk t r hk ht=>(X.tok k t r hk ht).mono d λc p hp=>(cF (pG w (λe=>(X.tkz k r hk c p hp).2.1 XA) o)).1,λk r hk c p hp=> ?_,X.tkd,λc p h=>by simpa [Dv]using X.imlt c p h,X.gl.le d⟩
  · by_cases e:j=i
    · subst e;rw[hb]at h2;cases h2;have hj:j<H.B.length:=(List.getElem?_eq_some_iff.1 l).1;simp only[List.getElem?_set_self hj,Option.some.injEq]at h3;subst h3;exact u _ d (QA w hlt o)
    · simp only[List.getElem?_set_ne (Ne.symm e)]at h3;have f:c≠b:=by intro q;subst q;have:=(getElem?_inj (List.getElem?_eq_some_iff.1 h2).1 X.nodup).1 (h2.trans hb.symm);exact e this
      exact(X.ob j c m h2 h3).mono d (pG w f o)
  · obtain⟨h2,h3,h4,v⟩:=X.tkz k r hk c p hp;have f:c≠b:=λe=>h3 (e▸a)
    have O:=cF (o:=p) (pG w f o);simp_all
section
variable {P:Program} {A:Array Oper} {G:Bool} {K:AX->AE->St->Prop} {C:List Oper} {I:List Ak} {s:AE} {H:St}
variable {d:Tmp} {R:TypeId} {D:String} {S:Array Edge}
def O6{B': List Ob}(X:dM H.B=some i)(h:kU H.B (.map []) some=some B')
    (k:AD P A G K C (.wb::I) ((d, .map i)::s) ⟨B', H.T⟩):AD P A G K (⟨some d, .makeMap T none,R,D,S,none⟩::C) I s H:=by have c:H.B++[.map []]=B':= Option.some.inj (eX _ _ _ _ h);have e:=dG X;refine bT (t := .wb) (v := .map i) (σ':= ⟨B', H.T⟩) rfl ⟨rfl,λτ=> ?_⟩ k;intro g w a next Q f j hn;have b:=Mc f (.map #[] 0) (.map []) (λg' _=>⟨#[],0,rW w _,rfl⟩);rw[<-c]at hn;unfold Oper.wp;refine hn (.map (some w.heap.size)) (dN w (.map #[] 0)) _ b.1 b.2 ⟨w.heap.size, ?_,rfl⟩;rw[<-e,show H.B.length=g.bx.length from f.lenB.symm];simp
variable [Lay P]
def Cg{kt et:TypeId}{x y:Operand}{es:List (AV×AV)}{f:List UInt8}{v:AV}(hT:P.underlying T=some (.map kt et))(r:P.underlying kt=some .string)(hE:ty? P et=some ti)
    (Y:ev? s x=some (.map i)) (hy:ev? s y=some (.str f)) (hB:H.B[i]? =some (.map es)) (hk:xN es=true) (hv:(vT f es).getD ti.zero=v)
    (k:AD P A G K C (.ri i::I) ((d,v)::s) H):AD P A G K (⟨some d, .lookup T x y false,R,D,S,none⟩::C) I s H:=
  bT (t := .ri i) rfl ⟨rfl,λB τ p=>by
    intro g w a next Q q ho hn
    obtain⟨b,hb,e⟩:=op1 Y Wd ho
    have e2:a.eval y = .string ⟨f.toArray⟩:=op1 hy Wd ho
    obtain⟨h,n,hh,hr⟩:=q.ob i b _ hb (p.trans hB)
    have m:IsKey .string (.string ⟨f.toArray⟩):=trivial
    obtain⟨z,hz,u,_⟩:=nQ hE w
    unfold Oper.wp
    have l:=MapKept.run_checkKey (P:=P) (w:=w) r m h.isEmpty 9999
    rcases FC (k:=f) 0 hr hk with⟨o,f2,f3⟩|⟨j,e0,x0,o,f2,f3,f4,f5,f6,f7⟩
    · have c:(execOp a.eval ⟨some d, .lookup T x y false,R,D,S,none⟩).run P w = .ok (.value z) w:=by
        simp[execOp,e,e2,Instr.lookup,run_underlying hT,MapKept.run_getObj_map hh,l,MapKept.run_findKey r o,hz,Result.andThen]
      rw[c]
      refine hn z w g (fD g w) q ?_
      rw[<-hv,f2]
      rw[<-u]
      exact kR g w z
    · have c:(execOp a.eval ⟨some d, .lookup T x y false,R,D,S,none⟩).run P w = .ok (.value e0.val) w:=by
        simp[execOp,e,e2,Instr.lookup,run_underlying hT,MapKept.run_getObj_map hh,l,MapKept.run_findKey r o,Result.andThen]
      rw[c]
      refine hn e0.val w g (fD g w) q ?_
      rw[<-hv,f4]
      exact f5⟩ k
def vU{kt et:TypeId}{x y z:Operand}{es:List (AV×AV)}{key:List UInt8}{v:AV}{B': List Ob}(hT:P.underlying T=some (.map kt et))(hK:P.underlying kt=some .string)
    (Y:ev? s x=some (.map i)) (hy:ev? s y=some (.str key)) (hz:ev? s z=some v) (hB:H.B[i]? =some (.map es)) (hk:xN es=true) (a4:H.B.set i (.map (Cf key v es))=B')
    (k:AD P A G K C (.wi i::I) s ⟨B', H.T⟩):AD P A G K (⟨none, .mapUpdate T x y z,R,D,S,none⟩::C) I s H:=by
  refine bT (t := .wi i) (v := .undef) (σ':= ⟨B', H.T⟩) rfl ⟨.map (Cf key v es),by rw[a4],λB τ m=> ?_⟩ k;intro g w a next Q hI ho hn;obtain⟨b,hb,e⟩:=op1 Y Wd ho;have e2:a.eval y = .string ⟨key.toArray⟩:=op1 hy Wd ho;have e3:=op1 hz Wd ho;obtain⟨d,c,hh,hr⟩:=hI.ob i b _ hb (m.trans hB);have l:IsKey .string (.string ⟨key.toArray⟩):=trivial;have r:=MapKept.run_checkKey (P:=P) (w:=w) hK l false 9999;unfold Oper.wp;rcases FC (k:=key) 0 hr hk with⟨f1,f2,f3⟩|⟨j,e0,x0,f1,f2,f3,f4,f5,f6,f7⟩
  · have h:(execOp a.eval ⟨none, .mapUpdate T x y z,R,D,S,none⟩).run P w = .ok .skip (Dv w b (.map (d.push ⟨.string ⟨key.toArray⟩,a.eval z,c⟩) (c+1))):=by simp[execOp,e,e2,Instr.mapUpdate,run_underlying hT,MapKept.run_getObj_map hh,r,MapKept.run_findKey hK f1,MapKept.run_setObj_map _ hh,Result.andThen,Dv]
    rw[h];obtain⟨n1,n2⟩:=HN hI hb (o := .map (d.push ⟨.string ⟨key.toArray⟩,a.eval z,c⟩) (c+1)) (ob := .map (Cf key v es)) (m.trans hB) (λw' f n=>by refine⟨_,_,n, ?_⟩;rw[f3,Array.toList_push];exact Au.snoc (e:=⟨.string ⟨key.toArray⟩,a.eval z,c⟩) (k:=AV.str key) (show _=_ from rfl) (Ab.mono f _ _ e3) (Au.mono f _ _ hr))
    exact hn undef _ g n1 n2 trivial
  · have hj:d[j]? =some e0:=by simpa using f2
    have h:(execOp a.eval ⟨none, .mapUpdate T x y z,R,D,S,none⟩).run P w = .ok .skip (Dv w b (.map (d.modify j λp=>{ p with key := .string ⟨key.toArray⟩,val:=a.eval z }) c)):=by simp[execOp,e,e2,Instr.mapUpdate,run_underlying hT,MapKept.run_getObj_map hh,r,MapKept.run_findKey hK f1,hj,f3,MapKept.run_keyThatStays l,MapKept.run_setObj_map _ hh,Result.andThen,Dv]
    rw[h];obtain⟨n1,n2⟩:=HN hI hb (o := .map (d.modify j λp=>{ p with key := .string ⟨key.toArray⟩,val:=a.eval z }) c) (ob := .map (Cf key v es)) (m.trans hB) (λw' f n=>by
      refine⟨_,_,n, ?_⟩;have a0:(d.modify j λp=>{ p with key := .string ⟨key.toArray⟩,val:=a.eval z }).toList=d.toList.set j { e0 with key := .string ⟨key.toArray⟩,val:=a.eval z }:=by
        apply List.ext_getElem?;intro q;simp only[getElem?_toList,Array.getElem?_modify,List.getElem?_set];by_cases hq:j=q
        · subst hq
          have hlt:=(Array.getElem?_eq_some_iff.1 hj).1;have u:j<d.toList.length:=Yd
          simp[u,hlt];rw[(Array.getElem?_eq_some_iff.1 hj).2]
        · simp[hq]
      rw[f7,a0];exact Au.put (e:={ e0 with key := .string ⟨key.toArray⟩,val:=a.eval z }) (k:=AV.str key) (show _=_ from rfl) (Ab.mono f _ _ e3) j (Au.mono f _ _ hr))
    exact hn undef _ g n1 n2 trivial
end
section
variable {P:Program} [Lay P] {A:Array Oper} {G:Bool} {K:AX->AE->St->Prop} {C:List Oper} {I:List Ak} {s:AE} {H:St}
variable {d:Tmp} {R:TypeId} {D:String} {S:Array Edge}
def Qy(P:Program)[Lay P](T:TypeId):BinOp->AV->AV->Option AV
  | .lss, .int k m, .int k' n=>match decEq k k' with|isTrue _=>some (.bool (decide (m<n)))|isFalse _=>none
  | .leq, .int k m, .int k' n=>match decEq k k' with|isTrue _=>some (.bool (decide (m<=n)))|isFalse _=>none
  | .gtr, .int k m, .int k' n=>match decEq k k' with|isTrue _=>some (.bool (decide (n<m)))|isFalse _=>none
  | .geq, .int k m, .int k' n=>match decEq k k' with|isTrue _=>some (.bool (decide (n<=m)))|isFalse _=>none
  | .eql, .int k m, .int k' n=>match decEq k k' with|isTrue _=>some (.bool (m==n))|isFalse _=>none
  | .neq, .int k m, .int k' n=>match decEq k k' with|isTrue _=>some (.bool (m != n))|isFalse _=>none
  | .eql, .str m, .str n=>some (.bool (m==n))
  | .neq, .str m, .str n=>some (.bool (m != n))
  | .lss, .str m, .str n=>some (.bool (nJ m n))
  | .gtr, .str m, .str n=>some (.bool (!(nJ m n||m==n)))
  | .leq, .str m, .str n=>some (.bool (nJ m n||m==n))
  | .geq, .str m, .str n=>some (.bool (!nJ m n))
  | .eql, .bool m, .bool n=>match ty? P T with|some ti=>(match ti.kind with | .bool=>some (.bool (m==n))|_=>none)|none=>none
  | .neq, .bool m, .bool n=>match ty? P T with|some ti=>(match ti.kind with | .bool=>some (.bool (m != n))|_=>none)|none=>none
  |_,_,_=>none
def Tj{c:BinOp}{x y:Operand}{a b v:AV}(Y:ev? s x=some a)(hy:ev? s y=some b)(h:Av.Qy P T c a b=some v)(k:AD P A G K C (.pure::I) ((d,v)::s) H):
    AD P A G K (⟨some d, .binOp c T x y U,R,D,S,none⟩::C) I s H:=by
  unfold Av.Qy at h;split at h
  · split at h<;>cases h;rename_i e _;subst e;exact aBe Y hy k
  · split at h<;>cases h;rename_i e _;subst e;exact aBf Y hy k
  · split at h<;>cases h;rename_i e _;subst e;exact aBg Y hy k
  · split at h<;>cases h;rename_i e _;subst e;exact aBh Y hy k
  · split at h<;>cases h;rename_i e _;subst e;exact aBi Y hy k
  · split at h<;>cases h;rename_i e _;subst e;exact aBj Y hy k
  · cases h;exact aBk Y hy k
  · cases h;exact aBl Y hy k
  · cases h;exact aBm Y hy k
  · cases h;exact aBn Y hy k
  · cases h;exact aBo Y hy k
  · cases h;exact aBp Y hy k
  · split at h
    · rename_i f hT;split at h<;>cases h
      exact aB8 hT ‹_› Y hy k
    · cases h
  · split at h
    · rename_i f hT;split at h<;>cases h
      exact aB9 hT ‹_› Y hy k
    · cases h
  · cases h
def pv(P:Program)[Lay P](s:AE):Op->Option AV
  | .move x=>ev? s x
  | .assign x=>ev? s x
  | .load T x=>match ev? s x with
    |some (.ab y)=>(match ty? P T with|some ti=>bif fits ti.agg ti.size y then some y else none|none=>none)
    |_=>none
  | .fieldAddr T x f=>match ty? P T with
    |none=>none
    |some ti=>match ti.kind with
      | .struct=>(match ti.fields[f]? with
        |some (o,n,ag)=>(match ev? s x with
          |some (.ab (.agg cs))=>bif Nat.blt 0 n then (match cut ag n o cs with|some y=>some (.ab y)|none=>none) else none
          |some (.ptr i off)=>bif Nat.blt 0 n then some (.ptr i (off+o)) else none
          |some (.an k z nn j off)=>bif Nat.blt 0 n then some (.an k z nn j (off+o)) else none
          |_=>none)
        |none=>none)
      |_=>none
  | .field T x f=>match ty? P T with
    |none=>none
    |some ti=>match ti.kind with
      | .struct=>(match ti.fields[f]? with
        |some (o,n,ag)=>(match ev? s x with|some (.agg cs)=>cut ag n o cs|_=>none)
        |none=>none)
      |_=>none
  | .binOp op T x y _=>match ev? s x with
    |some a=>(match ev? s y with|some b=>Qy P T op a b|none=>none)
    |none=>none
  | .unOp .not _ x=>match ev? s x with|some (.bool b)=>some (.bool (!b))|_=>none
  | .extract x i=>match ev? s x with|some (.tup vs)=>vs[i]? |_=>none
  | .build T parts=>match ty? P T with
    |none=>none
    |some ti=>match ti.kind with
      | .struct=>(match ti.zero with | .agg zs=>Ed (IV ti.fields) s parts.toList zs (λcs=>some (.agg cs))|_=>none)
      |_=>none
  | .buildSlice T len parts=>match ty? P T with
    |none=>none
    |some ti=>match ti.kind with
      | .slice=>(match ty? P ti.elem with
        |some te=>bif (te.agg||Nat.beq te.size 1)&&Nat.ble (len * te.size) 16777216&&Nat.ble len 16777216 then
            Ed (λi=>some (i * te.size,te.size)) s parts.toList (List.replicate (len * te.size) .undef) (λcs=>Ds te.agg te.size len cs λxs=>some (.slice xs .full)) else none
        |none=>none)
      |_=>none
  | .makeInterface T x=>match ty? P T with
    |none=>none
    |some ti=>match ti.kind with
      | .iface=>none
      |_=>(match ev? s x with|some v=>some (.iface T v)|none=>none)
  |_=>none
def vR{α:Type}{x:Option α}{y:α}(h:(bif b then x else none)=some y):b=true/\x=some y:=WN
def aDZ{v:AV}(h:Av.pv P s a=some v)(k:AD P A G K C (.pure::I) ((d,v)::s) H):AD P A G K (⟨some d,a,R,D,S,none⟩::C) I s H:=by
  unfold Av.pv at h;split at h
  · exact VC h k
  · exact QC h k
  · split at h
    · rename_i Y;split at h
      · rename_i hT;obtain⟨h1,h2⟩:=vR h;cases h2;exact QO hT Y h1 k
      · cases h
    · cases h
  · split at h
    · cases h
    · rename_i hT;split at h
      · rename_i hk;split at h
        · rename_i hf;split at h
          · rename_i Y;obtain⟨h1,h2⟩:=vR h;split at h2
            · cases h2;exact Pd hT Y hf hk h1 ‹_› k
            · cases h2
          · rename_i Y;obtain⟨h1,h2⟩:=vR h;cases h2;exact Pc hT Y hf hk h1 rfl k
          · rename_i Y;obtain⟨h1,h2⟩:=vR h;cases h2;exact j8 (hT:=hT) (Y:=Y) (hf:=hf) (hk:=hk) (hn:=h1) k
          · cases h
        · cases h
      · cases h
  · split at h
    · cases h
    · rename_i hT;split at h
      · rename_i hk;split at h
        · rename_i hf;split at h
          · rename_i Y;exact Tt hT Y hf hk h k
          · cases h
        · cases h
      · cases h
  · split at h
    · rename_i Y;split at h
      · rename_i hy;exact Tj Y hy h k
      · cases h
    · cases h
  · split at h
    · rename_i Y;cases h;exact aBc Y k
    · cases h
  · split at h
    · rename_i Y;exact O3 Y h k
    · cases h
  · split at h
    · cases h
    · rename_i hT;split at h
      · rename_i hk;split at h
        · rename_i hz;exact Te hT hk hz h k
        · cases h
      · cases h
  · split at h
    · cases h
    · rename_i hT;split at h
      · rename_i hk;split at h
        · rename_i hE;obtain⟨h1,h2⟩:=vR h;simp only[and_eq_true]at h1;exact IW hT hk hE h1.1.1 h1.1.2 h1.2 h2 k
        · cases h
      · cases h
  · split at h
    · cases h
    · rename_i hT;split at h
      · cases h
      · rename_i hk;split at h
        · rename_i Y;cases h;exact Em hT (λe=>hk e) Y k
        · cases h
  · cases h
def AD.lb{x:Operand}{a:Nat}{cs:List AV}{v:AV}(k:AD P A G K C (.ri i::I) ((d,v)::s) H)(hT:ty? P T=some ti:=by exact rfl)(Y:ev? s x=some (.ptr i a):=by exact rfl)(b:H.B[i]? =some (.cells cs):=by exact rfl)(hv:cut ti.agg ti.size a cs=some v:=by exact rfl):
 AD P A G K (⟨some d, .load T x,R,D,S,none⟩::C) I s H:=QP hT Y b hv k
def AD.ln{x:Operand}{xs:List AV}{tk:Tk}{n:Int}(k:AD P A G K C (.pure::I) ((d, .int .i64 n)::s) H)(hT:ty? P T=some ti:=by exact rfl)(hk:ti.kind = .slice:=by exact rfl)(Y:ev? s x=some (.slice xs tk):=by exact rfl)(hn:(xs.length:Int)=n:=by first|rw[List.length_map]|exact rfl):
 AD P A G K (⟨some d, .call ⟨.builtin .len, #[x], #[T]⟩,R,D,S,none⟩::C) I s H:=NL hT hk Y hn k
def AD.ls{x:Operand}{n:Int}(k:AD P A G K C (.pure::I) ((d, .int .i64 n)::s) H)(hT:ty? P T=some ti:=by exact rfl)(hk:ti.kind = .string:=by exact rfl)(Y:ev? s x=some (.str xs):=by exact rfl)(hn:(xs.length:Int)=n:=by exact rfl):
 AD P A G K (⟨some d, .call ⟨.builtin .len, #[x], #[T]⟩,R,D,S,none⟩::C) I s H:=VD hT hk Y hn k
def AD.vl{x:Operand}{k b lo X:Nat}{n:Int}(a:AD P A G K C (.pure::I) ((d, .int .i64 n)::s) H)(hT:ty? P T=some ti:=by exact rfl)(hk:ti.kind = .slice:=by exact rfl)(Y:ev? s x=some (.Y k z b lo X):=by exact rfl)(hn:((X-lo:Nat):Int)=n:=by exact rfl):
 AD P A G K (⟨some d, .call ⟨.builtin .len, #[x], #[T]⟩,R,D,S,none⟩::C) I s H:=jH (hT:=hT) (hk:=hk) (Y:=Y) (hn:=hn) a
def AD.ix{x i:Operand}{xs:List AV}{tk:Tk}{a:IntKind}{n:Int}{j:Nat}{y:AV}{te:TI}(k:AD P A G K C (.pure::I) ((d, .ab y)::s) H)(hT:ty? P T=some ti:=by exact rfl)(hk:ti.kind = .slice:=by exact rfl)(hE:ty? P ti.elem=some te:=by exact rfl)(Y:ev? s x=some (.slice xs tk):=by exact rfl)(X:ev? s i=some (.int a n):=by exact rfl)(hj:n=(j:Int):=by exact rfl)(hy:xs[j]? =some y:=by assumption)(hf:fits te.agg te.size y=true:=by exact rfl):
 AD P A G K (⟨some d, .indexAddr T x i,R,D,S,none⟩::C) I s H:=HS hT hk hE Y X hj hy hf k
theorem AD.pt{c x y:Operand}{v:AV}(k:AD P A G K C (.pure::I) ((d,v)::s) H)(O:ev? s c=some (.bool b):=by exact rfl)(hb:b=true:=by first|exact rfl|assumption)(h:ev? s x=some v:=by exact rfl):
 AD P A G K (⟨some d, .pick c x y,R,D,S,none⟩::C) I s H:=Kd O hb h k
def AD.pf{c x y:Operand}{v:AV}(k:AD P A G K C (.pure::I) ((d,v)::s) H)(O:ev? s c=some (.bool b):=by exact rfl)(hb:b=false:=by first|exact rfl|assumption)(h:ev? s y=some v:=by exact rfl):
 AD P A G K (⟨some d, .pick c x y,R,D,S,none⟩::C) I s H:=I8 O hb h k
theorem AD.bx{x:Operand}{v:AV}{B': List Ob}(k:AD P A G K C (.wb::I) ((d, .ptr i 0)::s) ⟨B', H.T⟩)(Y:ev? s x=some v:=by exact rfl)(X:dM H.B=some i:=by exact rfl)(a:kT v (λcs=>kU H.B (.cells cs) some)=some B':= by exact rfl):
 AD P A G K (⟨some d, .box T x,R,D,S,none⟩::C) I s H:=aBq Y X a k
theorem AD.br{x:Operand}{v:AV}(k:AD P A G K C (.pure::I) ((d, .ab v)::s) H)(Y:ev? s x=some v:=by exact rfl)(O:kT v (λ_=>some ())=some ():=by exact rfl):
 AD P A G K (⟨some d, .box T x,R,D,S,none⟩::C) I s H:=dB (Y:=Y) (O:=O) k
theorem AD.al{B': List Ob}(k:AD P A G K C (.wb::I) ((d, .ptr i 0)::s) ⟨B', H.T⟩)(hT:ty? P T=some ti:=by exact rfl)(X:dM H.B=some i:=by exact rfl)(a:kT ti.zero (λcs=>kU H.B (.cells cs) some)=some B':= by exact rfl):
 AD P A G K (⟨some d, .alloc T,R,D,S,none⟩::C) I s H:=Tu hT X a k
theorem AD.st{x y:Operand}{a:Nat}{v:AV}{B': List Ob}(k:AD P A G K C (.wi i::I) s ⟨B', H.T⟩)(hT:ty? P T=some ti:=by exact rfl)(Y:ev? s x=some (.ptr i a):=by exact rfl)(hy:ev? s y=some v:=by exact rfl)(hf:fits ti.agg ti.size v=true:=by exact rfl)(c:To i H.B (λo k=>match o with | .cells cs=>kT v (λvs=>Ci a vs cs (λb=>k (.cells b)))|_=>none) some=some B':= by exact rfl):
 AD P A G K (⟨none, .store T x y,R,D,S,none⟩::C) I s H:=Tv hT Y hy hf c k
theorem AD.ad{x y:Operand}{n r:Int}(a:AD P A G K C (.pure::I) ((d, .int .i64 r)::s) H)(Y:ev? s x=some (.int .i64 m):=by exact rfl)(hy:ev? s y=some (.int .i64 n):=by exact rfl)(hr:m+n=r:=by exact rfl)(hb : -9223372036854775808<=r/\r<=9223372036854775807:=by omega):
 AD P A G K (⟨some d, .binOp .add T x y U,R,D,S,none⟩::C) I s H:=Tn (Y:=Y) (hy:=hy) (hr:=hr) (hb:=hb) a
theorem AD.sb{x y:Operand}{n r:Int}(a:AD P A G K C (.pure::I) ((d, .int .i64 r)::s) H)(Y:ev? s x=some (.int .i64 m):=by exact rfl)(hy:ev? s y=some (.int .i64 n):=by exact rfl)(hr:m-n=r:=by exact rfl)(hb : -9223372036854775808<=r/\r<=9223372036854775807:=by omega):
 AD P A G K (⟨some d, .binOp .sub T x y U,R,D,S,none⟩::C) I s H:=tF (Y:=Y) (hy:=hy) (hr:=hr) (hb:=hb) a
theorem AD.nl(k:K .normal s H)(h:G=true->xJ A I.reverse=true:=by exact fun _=>rfl):
 AD P A G K [] I s H:=aBa h k
def AD.dd{b:Op}{j:Nat}{a:Bool}(k:AD P A G K C (.pure::I) (iJ dst (.tup []) s) H)(h:yv A s j=some (.tup []):=by exact rfl):
 AD P A G K (⟨dst,b,R,D,S,some (j,a)⟩::C) I s H:=VB h k
theorem AD.ys{j:Nat}{want b:Bool}(k:AD P A G K (⟨dst,a,R,D,S,none⟩::C) I s H)(h:yv A s j=some (.bool b):=by exact rfl)(hb:b=want:=by first|exact rfl|assumption):
 AD P A G K (⟨dst,a,R,D,S,some (j,want)⟩::C) I s H:=U2 h hb k
theorem AD.no{c:Op}{j:Nat}{a b:Bool}(k:AD P A G K C (.pure::I) (iJ dst (.tup []) s) H)(h:yv A s j=some (.bool b):=by exact rfl)(hb:b = !a:=by first|exact rfl|assumption):
 AD P A G K (⟨dst,c,R,D,S,some (j,a)⟩::C) I s H:=aBb h hb k
theorem AD.pv{v:AV}(k:AD P A G K C (.pure::I) ((d,v)::s) H)(h:Av.pv P s a=some v:=by exact rfl):
 AD P A G K (⟨some d,a,R,D,S,none⟩::C) I s H:=aDZ h k
theorem AD.is{x i:Operand}{a:IntKind}{n:Int}{j:Nat}{y:UInt8}(k:AD P A G K C (.pure::I) ((d, .int .u8 (y.toNat:Int))::s) H)(hT:ty? P T=some ti:=by exact rfl)(hk:ti.kind = .string:=by exact rfl)(Y:ev? s x=some (.str xs):=by exact rfl)(X:ev? s i=some (.int a n):=by exact rfl)(hj:n=(j:Int):=by exact rfl)(hy:xs[j]? =some y:=by assumption):
 AD P A G K (⟨some d, .index T x i,R,D,S,none⟩::C) I s H:=bJ (hT:=hT) (hk:=hk) (Y:=Y) (X:=X) (hj:=hj) (hy:=hy) k
theorem AD.cl{a:Option Tmp}{J:List AV}{r:AV}(k:AD P A G K C (.pure::I) (iJ a r s) H)(ha:j7 s args.toList some=some J:=by exact rfl)(hp:AN P f J r:=by assumption):
    AD P A G K (⟨a, .call ⟨.value (.func f),args,p⟩,R,D,S,none⟩::C) I s H:=aH (ha:=ha) hp k
def AD.ck{a:Option Tmp}{J vals': List AV}{r:AV}(k:AD P A G K C (.pure::I) (iJ a r s) H)(ha:j7 s args.toList some=some J:=by exact rfl)(hp:AN P f vals' r:=by assumption)
    (hw:AA J vals':= by first|((repeat' first|exact aD _|refine AA.cons (aG _) ?_|refine AA.cons (AC.no (aD _)) ?_);done)|fail):
    AD P A G K (⟨a, .call ⟨.value (.func f),args,p⟩,R,D,S,none⟩::C) I s H:=aH (ha:=ha) (hw:=hw) hp k
def AD.mf{fn:Fn}{first cap:Array Operand}{fs cs:List AV}(k:AD P A G K C (.pure::I) ((d, .fn fn fs cs)::s) H)(hf:j7 s first.toList some=some fs:=by exact rfl)(O:j7 s cap.toList some=some cs:=by exact rfl):
    AD P A G K (⟨some d, .makeFunc fn first cap,R,D,S,none⟩::C) I s H:=tA hf O k
def AD.cw{a:Option Tmp}{x:Operand}{b cs J:List AV}{r:AV}(k:AD P A G K C (.pure::I) (iJ a r s) H)(Y:ev? s x=some (.fn (.func f) b cs):=by exact rfl)(ha:j7 s args.toList some=some J:=by exact rfl)
    (hp:AN P f (b++J++cs) r:=by assumption):AD P A G K (⟨a, .call ⟨.value x,args,p⟩,R,D,S,none⟩::C) I s H:=I3 Y ha hp (aD _) k
section
variable {N:Nat} {D:List Deferred}
def AB.rg{id:Nat}{a:Array Oper}(h:AD P a false K a.toList [] s H)(b:Cd N a.toList=true:=by exact rfl):
 AB P N D (.region id a false) K s H:=AB.region b h
def AB.rd{id:Nat}{a:Array Oper}(h:AD P a true K a.toList [] s H)(b:P.follows .mixedOrders=true:=by exact Lay.c8)(c:Cd N a.toList=true:=by exact rfl):
 AB P N D (.region id a true) K s H:=vJ b c h
def AB.ct{c:Operand}(h:AB P N D x K s H)(O:ev s c = .bool true:=by exact rfl):
 AB P N D (.cond c x y) K s H:=o7 O h
def AB.cf{c:Operand}(h:AB P N D y K s H)(O:ev s c = .bool false:=by exact rfl):
 AB P N D (.cond c x y) K s H:=oA O h
def AB.cy{c:Operand}(h:AB P N D x K s H)(O:ev s c = .bool b:=by exact rfl)(hb:b=true:=by assumption):
 AB P N D (.cond c x y) K s H:=J1 O hb h
def AB.cn{c:Operand}(h:AB P N D y K s H)(O:ev s c = .bool b:=by exact rfl)(hb:b=false:=by assumption):
 AB P N D (.cond c x y) K s H:=LW O hb h
end
def bK{N:Nat}{D:List Deferred}{c:Code}(N0:Nat)(S:Nat->AE)(Z:Nat->St)(J:Nat->Prop)(hs:Sub (S 0) s) (a:∀k,k<=N0->J k->AB P N D c (thn (λs' σ'=> k<N0/\Sub (S (k+1)) s'/\ aM H.B.length H.T.length (S (k+1))=true/\
      (aQ H.B.length H.T.length (σ'.B.take H.B.length)&&aL H.B.length H.T.length (σ'.T.take H.T.length))=true/\(⟨σ'.B.take H.B.length,σ'.T.take H.T.length⟩:St)=Z (k+1)/\J (k+1)) K) (S k) (Z k)) (hz:Z 0=H:=by exact rfl) (hj:J 0:=by exact trivial):
    AB P N D (.loop c) K s H:=by
  refine AB.loop (λn d b=>∃k,n=N0-k/\k<=N0/\J k/\d=S k/\b=Z k) (n:=N0) hs ⟨0,rfl,zero_le _,hj,rfl,hz.symm⟩ ?_;rintro n d b ⟨k,rfl,hk,hJ,rfl,rfl⟩;refine(a k hk hJ).mono ?_;intro e s' σ' h;cases e with
  |normal=>obtain⟨h1,h2,h3,h4,f,g⟩:=h;exact⟨N0-(k+1),om,S (k+1),h2,h3,h4,k+1,rfl,h1,g,rfl,f⟩
  |exit id=>exact h
  |goto l=>exact h
  |ret=>exact h
  |pan x=>exact h
end
def HM(P:Program):TypeDesc->Bool
  | .struct fs=>fs.toList.all λf=>(P.info? f.type).isSome&&(P.underlying f.type).isSome
  |_=>true
def Fz{P:Program}{t:TypeId}{d:TypeDesc}(z:Value)(h1:(P.info? t).map (λi=>(i.size,i.bytes,i.zero))=some (ti.size,ti.bytes,some z))(h2:P.underlying t=some d)(h3:tD d=ti.kind)(h4:I7 d=ti.elem)
    (c:Dw d=ti.agg) (g:qL z=ti.zero) (h:z.cells.size=ti.size) (j:oB P d=ti.fields) (k:(z.cells.toList.all λv=>v.oneCell')=true) (b:HM P d=true):CE P t ti:=by
  cases X:P.info? t with
  |none=>rw[X]at h1;cases h1
  |some a=>rw[X]at h1;simp only[Option.map_some,Option.some.injEq,Prod.mk.injEq]at h1;refine⟨⟨a,d,z,X,h2,h3,h4,c,h1.1,h1.2.1,h1.2.2,g,h,j,k,λl e f hf=> ?_⟩⟩;subst e;have:=List.all_eq_true.1 b f hf;simp_all
open Go Go.RowKit Go.ChangeShapes Go.WideShapes Go.ChangeAt
mutual
def rE{H:Type}:DataW H->Nat
  | .lit (.string bytes)=>bytes.length+1
  | .lit _=>1
  | .nil=>1
  | .ptr d=>rE d+1
  | .slice elems spare=>lJ elems+lJ spare+1
  | .agg parts=>lJ parts+1
  | .iface _ d=>rE d+1
  | .map entries=>qM entries+1
  | .held _=>1
def lJ{H:Type}:List (DataW H)->Nat
  |[]=>0
  |d::r=>rE d+lJ r
def qM{H:Type}:List (Lit×DataW H)->Nat
  |[]=>0
  |x::r=>nL x+qM r
def nL{H:Type}:Lit×DataW H->Nat
  |(.string bytes,d)=>bytes.length+rE d+1
  |(_,d)=>rE d+1
end
def old(w:World):Gh:=⟨[],[],λb _=>b<w.heap.size⟩
def rU(agg:Bool)(cs:List Value):Value:=if agg then .agg cs.toArray else cs.headD undef
def AP(P:Program)(n:Nat)(t:TypeId)(agg:Bool){α:Type}(enc:α->AV)(size:α->Nat)(ok:α->Prop):Prop:=
  ∀(H:Type) (eh:TypeId×Value->H) (w:World) (fuel:Nat) (cs:List Value) (d:DataW H) (ps:List MemPlace),fuel<=n->DataW.trod eh P w 0 (λ_=>true) true fuel t cs=some (d,ps)->
    ∃x:α,Ab (old w) w (enc x) (rU agg cs)/\(rU agg cs).cells.toList=cs/\(∀u∈cs,u.oneCell'= true)/\size x<=rE d/\ok x
section
variable {P:Program} {n:Nat}
theorem AP.int{t:TypeId}(ht:P.underlying t=some (.int k)):AP P n t false (λx:Int => .int k x) (λ_=>1) (λx=>(Lit.int k x).wf=true):=by intro H eh w b cs d ps _ h;obtain⟨m,rfl,Y,a⟩:=DataW.trod_int ht h;cases Y;exact⟨m,rfl,rfl,XE,by simp[rE],a⟩
theorem AP.bool{t:TypeId}(ht:P.underlying t=some .bool):AP P n t false (λx:Bool => .bool x) (λ_=>1) (λ_=>True):=by intro H eh w a cs d ps _ h;obtain⟨b,rfl,Y⟩:=DataW.trod_bool ht h;cases Y;exact⟨b,rfl,rfl,XE,by simp[rE],trivial⟩
def AP.string{t:TypeId}(ht:P.underlying t=some .string):AP P n t false (λx:List UInt8 => .str x) (λx=>x.length+1) (λ_=>True):=by intro H eh w a cs d ps _ h;obtain⟨s,rfl,Y,hs⟩:=DataW.trod_string ht h;cases Y;refine⟨s.data.toList, ?_,rfl,XE,by simp[rE],trivial⟩;show Value.string s = .string ⟨s.data.toList.toArray⟩;simp
def Eh{α:Type}{p:Nat->α->Prop}:∀n:Nat,(∀i,i<n->∃x,p i x)->∃l:List α,l.length=n/\∀(i:Nat) (x:α),l[i]? =some x->p i x
  |0,_=>⟨[],rfl,λi x h=>Wm⟩
  |n+1,h=>by
    obtain⟨l,h1,h2⟩:=Eh n λi X=>h i om
    obtain⟨x,Y⟩:=h n om;refine⟨l++[x],Xg,λi y hy=> ?_⟩;grind
def aA{α:Type}(size:α->Nat):List α->Nat
  |[]=>0
  |x::l=>size x+aA size l
def aN{α:Type}{size:α->Nat}{x:α}{l:List α}(h:x∈l):size x<=aA size l:=by
  induction l with
  |nil=>cases h
  |cons y r E=>
    simp only[aA];cases List.mem_cons.1 h with
    |inl e=>subst e;omega
    |inr e=>have:=E e;omega
def aJ{α:Type}{size:α->Nat}(h1:∀x,1<=size x):∀l:List α,l.length<=aA size l
  |[]=>zero_le _
  |x::l=>by have:=h1 x;have:=aJ h1 l;simp only[aA,List.length_cons];omega
def FA{α H:Type}{size:α->Nat}:∀(l:List α) (a:List (DataW H)),l.length=a.length->(∀(i:Nat) (x:α) (d:DataW H),l[i]? =some x->a[i]? =some d->size x<=rE d)->aA size l<=lJ a
  |[],_,_,_=>zero_le _
  |x::l,[],h,_=>by simp at h
  |x::l,d::a,h,hh=>by
    have h1:=hh 0 x d rfl rfl;have h2:=FA l a Wp λi y e hy he=>hh (i+1) y e YY (by simpa using he)
    simp only[aA,lJ];omega
def Ei{g:Gh}{w:World}:∀(xs:List AV) (Vs:List Value),xs.length=Vs.length->(∀(i:Nat) (x:AV) (V:Value),xs[i]? =some x->Vs[i]? =some V->Ab g w x V)->AL g w xs Vs
  |[],[],_,_=>rfl
  |[],_::_,h,_=>by simp at h
  |_::_,[],h,_=>by simp at h
  |x::xs,V::Vs,h,hh=>⟨V,Vs,rfl,hh 0 x V rfl rfl,Ei xs Vs Wp λi y u hy a=>hh (i+1) y u YY (by simpa using a)⟩
theorem AP.slice{t e:TypeId}{agg:Bool}{α:Type}{a2:α->AV}{size:α->Nat}{ok:α->Prop}{c:Nat}(ht:P.underlying t=some (.slice e))(O:P.cellsOf e=c)(aa:0<c)(h:AP P n e agg a2 size ok):
    AP P (n+1) t false (λl:List α => .slice (l.map a2) .no) (λl=>aA size l+1) (λl=>∀x∈l,ok x):=by
  have he:0<P.cellsOf e:=by rw[O];exact aa
  intro H eh w ah cs d ps ak hd;rcases DataW.trod_slice ht hd with⟨rfl,Y⟩|⟨a,len,cap,elems,rs,m,rfl,rfl,Y,h1,h2,h3,h4,h5,_⟩
  · cases Y;refine⟨[],⟨none,0,0,[],rfl,Nat.le_refl _,by simp[maxLen],trivial,rfl,λ_=>⟨rfl,rfl⟩,λp hp=>Xm⟩,rfl,XE,by simp[rE,aA],Wa⟩
  · cases Y;have ac:∀i,i<len->∃(p:α×List Value),(∀j,j<P.cellsOf e->∃v,p.2[j]? =some v/\w.cell? ((a.add (i * P.cellsOf e)).add j)=some v)/\p.2.length=P.cellsOf e/\Ab (old w) w (a2 p.1) (rU agg p.2)/\(rU agg p.2).cells.toList=p.2/\
        (∀u∈p.2,u.oneCell'= true)/\(∀y,elems[i]? =some y->size p.1<=rE y.1)/\ok p.1:=by
      intro i X;have hi':= h5 i X;have hlt:i<elems.length:=om
      rw[getElem?_eq_getElem hlt]at hi';obtain⟨a0,b,hy⟩:=bind_eq_some_iff.1 hi';unfold World.cells? at b;split at b;case isFalse=>cases b
      have f:=mapM_some_length b;have a3:=λj (hj:j<P.cellsOf e)=>mapM_some_get b j j (by simp[hj])
      obtain⟨x,r1,r2,r3,r4,r5⟩:=h H eh w m a0 elems[i].1 elems[i].2 om hy;refine⟨(x,a0),λj hj=> ?_,XS,r1,r2,r3,λy a8=> ?_,r5⟩
      · have a5:j<a0.length:=by simp at f;omega
        exact⟨a0[j],getElem?_eq_getElem a5,by rw[a3 j hj,getElem?_eq_getElem a5]⟩
      · rw[getElem?_eq_getElem hlt]at a8;cases a8;exact r4
    obtain⟨l,hl,g⟩:=Eh len ac;have k:a.spot=none\/l=[]:=by
      rcases Nat.eq_zero_or_pos len with e0|e0
      · right;exact List.eq_nil_of_length_eq_zero om
      · left;have ae:0<l.length:=om
        obtain⟨v,_,hv⟩:=(g 0 _ (getElem?_eq_getElem ae)).1 0 he;simp only[Nat.zero_mul]at hv;unfold Addr.add World.cell? at hv;simp only[if_true]at hv;cases hs:a.spot with
        |none=>rfl
        |some s=>simp only[hs,Option.isSome_some,if_true]at hv;split at hv<;>cases hv
    refine⟨l.map (·.1),⟨some a,cap,P.cellsOf e,l.map λp=>rU agg p.2,by simp[hl,rU],by simpa [hl]using h2,h3,trivial, ?_,(λh=>Wu),λp hp=> ?_⟩,rfl,XE, ?_, ?_⟩
    · refine Ei _ _ Wa λi x V Y hV=> ?_
      simp only[getElem?_map,map_eq_some_iff]at Y hV;obtain⟨x', ⟨q,r,rfl⟩,rfl⟩:=Y;obtain⟨q', a6,rfl⟩:=hV;rw[r]at a6;cases a6;exact(g i q r).2.2.1
    · cases hp;refine⟨k.imp id λe=>by simp[e],λi V hV=> ?_⟩;simp only[getElem?_map,map_eq_some_iff]at hV;obtain⟨q,r,rfl⟩:=hV;obtain⟨q1,q2,q3,q4,q5,_⟩:=g i q r;have af:(rU agg q.2).cells.size=P.cellsOf e:=by rw[<-Array.length_toList,q4,q2]
      refine⟨af,λj u hj=> ?_⟩;have ad:j<P.cellsOf e:=by have:=(Array.getElem?_eq_some_iff.1 hj).1;omega
      rw[<-getElem?_toList,q4]at hj;obtain⟨v,a7,a1⟩:=q1 j ad;rw[hj]at a7;cases a7;have hs:a.spot=none:=k.resolve_right λe=>by rw[e]at r;simp at r
      obtain⟨ab,ao,a9⟩:=a;cases (show a9=none from hs);rw[eO,eO]at a1;refine⟨?_,a1,q5 u (mem_of_getElem? hj)⟩;show ab<w.heap.size;unfold World.cell? at a1;cases hb:w.heap[ab]? with
      |none=>simp[hb]at a1
      |some o=>exact(Array.getElem?_eq_some_iff.1 hb).1
    · simp only[rE];have:aA size (l.map (·.1))<=lJ (elems.map (·.1)):=FA _ _ (by simp[hl,h4]) λi x y Y hy=>by simp only[getElem?_map,map_eq_some_iff]at Y hy;obtain⟨q,r,rfl⟩:=Y;obtain⟨z,hz,rfl⟩:=hy;exact(g i q r).2.2.2.2.2.1 z hz
      omega
    · intro x Y;obtain⟨q,r,rfl⟩:=List.mem_map.1 Y;obtain⟨i,X⟩:=getElem?_of_mem r;exact(g i q X).2.2.2.2.2.2
def Du(v:AV):List AV:=
  match v with
  | .agg cs=>cs
  |v=>[v]
def AU(P:Program)(n:Nat)(fs:List Field)(off:Nat){α:Type}(enc:α->List AV)(size:α->Nat)(ok:α->Prop):Prop:=
  ∀(H:Type) (eh:TypeId×Value->H) (w:World) (fuel:Nat) (cs:List Value) (xs:List (DataW H×List MemPlace)),fuel<=n->xs.length=fs.length->
    (∀(i:Nat) (f:Field),fs[i]? =some f->DataW.trod eh P w 0 (λ_=>true) true fuel f.type ((cs.drop f.offset).take (P.cellsOf f.type))=xs[i]?)->cs.length=off+(fs.map λf=>P.cellsOf f.type).sum->
    ∃x:α,AL (old w) w (enc x) (cs.drop off)/\(∀u∈cs.drop off,u.oneCell'= true)/\size x<=lJ (xs.map (·.1))/\ok x
theorem AU.nil{a:Nat}:AU P n [] a (λ_:Unit=>[]) (λ_=>0) (λ_=>True):=by intro H eh w b cs xs _ _ _ hl;have:cs.drop a=[]:=List.drop_eq_nil_of_le (by simp at hl;omega);rw[this];exact⟨(),rfl,Wa,zero_le _,trivial⟩
theorem AU.cons{f:Field}{fs:List Field}{a c:Nat}{agg:Bool}{α β:Type}{d:α->AV}{size:α->Nat}{ok:α->Prop}{h:β->List AV}{g:β->Nat}{a0:β->Prop}
    (ho:f.offset=a) (O:P.cellsOf f.type=c) (k:∀x,(agg=true->∃cs,d x = .agg cs)/\(agg=false->Du (d x)=[d x])) (h1:AP P n f.type agg d size ok) (h2:AU P n fs (a+c) h g a0):
    AU P n (f::fs) a (λx:α×β=>Du (d x.1)++h x.2) (λx=>size x.1+g x.2) (λx=>ok x.1/\a0 x.2):=by
  intro H eh w j cs xs q z Y hl;cases xs with
  |nil=>simp at z
  |cons x0 xs=>
    have e0:=Y 0 f rfl;obtain⟨x,m,l,r3,r4,r5⟩:=h1 H eh w j _ x0.1 x0.2 q e0;obtain⟨y,s1,s2,s3,s4⟩:=h2 H eh w j cs xs q (by simpa using z) (λi f' a4=>by have:=Y (i+1) f' (by simpa using a4);simpa using this) (by rw[hl];simp only[List.map_cons,List.sum_cons,O];omega)
    rw[ho,O]at m l r3;have b:cs.drop a=(cs.drop a).take c++cs.drop (a+c):=by rw[<-List.drop_drop,List.take_append_drop]
    refine⟨(x,y), ?_, ?_, ?_,r5,s4⟩
    · rw[b]
      refine AL.append ?_ s1;cases e:agg with
      |true=>
        obtain⟨a8,p⟩:=(k x).1 e;rw[e,p]at m;obtain⟨vs,hv,t,_⟩:=m;rw[p];have:vs=((cs.drop a).take c).toArray:=by simpa [rU]using hv.symm
        rw[this]at t;simpa [Du]using t
      |false=>
        rw[(k x).2 e];rw[e]at m l;have a5:(cs.drop a).take c≠[]:=by intro r;rw[r]at l;simp[rU,undef,Value.cells]at l
        obtain⟨v,vs,a6⟩:=List.exists_cons_of_ne_nil a5;rw[a6]at m l r3 ⊢;simp only[rU,Bool.false_eq_true,if_false,List.headD_cons]at m l;have a2:=r3 v Wa;have a3:v.cells = #[v]:=by cases v<;>first|rfl|cases a2
        rw[a3]at l;have:vs=[]:=XV
        subst this;exact⟨v,[],rfl,m,rfl⟩
    · intro u o
      rw[b]at o;rcases List.mem_append.1 o with o|o
      · exact r3 u o
      · exact s2 u o
    · simp only[List.map_cons,lJ]
      omega
def bL{α:Type}{a:α->AV}(h:∀x,Du (a x)=[a x])(x:α):(false=true->∃cs,a x = .agg cs)/\(false=false->Du (a x)=[a x]):=WN
def kS{α:Type}{a:α->AV}(h:∀x,∃cs,a x = .agg cs)(x:α):(true=true->∃cs,a x = .agg cs)/\(true=false->Du (a x)=[a x]):=Xw
def AP.struct{t:TypeId}{b:Array Field}{α:Type}{a:α->List AV}{size:α->Nat}{ok:α->Prop}(ht:P.underlying t=some (.struct b))(O:P.cellsOf t=(b.toList.map λf=>P.cellsOf f.type).sum)(h:AU P n b.toList 0 a size ok):
    AP P (n+1) t true (λx:α => .agg (a x)) (λx=>size x+1) ok:=by intro H eh w g cs d ps l k;obtain⟨xs,m,rfl,Y,hl,e,hf⟩:=DataW.trod_struct ht k;cases Y;obtain⟨x,o,j,q,p⟩:=h H eh w m cs xs om Yv (λi f c=>hf i f WY) (by rw[hl,O];omega);exact⟨x,⟨cs.toArray,rfl,by simpa using o,by simpa using j⟩,by simp[rU,Value.cells],j,by simp only[rE];omega,p⟩
theorem AP.map{t:TypeId}{agg:Bool}{α β:Type}{c:α->AV}{size:α->Nat}{ok:α->Prop}{b:β->AV}{a:β->Nat}{ok': β->Prop}(h:AP P n t agg c size ok)
    (f:α->β) (h1:∀x,b (f x)=c x) (h2:∀x,a (f x)<=size x) (h3:∀x,ok x->ok' (f x)):AP P n t agg b a ok':= by intro H eh w e cs d ps g i;obtain⟨x,j,k,l,m,o⟩:=h H eh w e cs d ps g i;grind
end
section
variable {H:Type} {eh:TypeId×Value->H} {P:Program} {w:World}
def Qz{t:TypeId}{agg:Bool}{α:Type}{g:α->AV}{size:α->Nat}{ok:α->Prop}(h:∀n,AP P n t agg g size ok)(b:((P.underlying t).map Dw).getD false=agg){base:Nat}(a:Value.okWide P w .any base t v)
    {d:DataW H} {ps:List MemPlace} (l:DataW.Trod eh P w 0 (λ_=>true) true t v d ps):∃x:α,Ab (old w) w (g x) v/\size x<=rE d/\ok x:=by
  obtain⟨c,hf⟩:=l;obtain⟨x,p,q,r,m,o⟩:=h c H eh w c _ d ps (Nat.le_refl _) hf;refine⟨x, ?_,m,o⟩;have:rU agg v.cells.toList=v:=by
    cases j:P.underlying t with
    |none=>unfold Value.okWide at a;simp[Cell.okWide,Cell.ok,j]at a
    |some f=>
      rw[j]at b;simp only[Option.map_some,Option.getD_some]at b;subst b;cases i:Dw f with
      |true=>unfold Value.okWide at a;rw[j]at a;cases f<;>first|(cases i;done)|(obtain⟨cs,rfl,_⟩:=a;simp[rU,Value.cells])
      |false=>
        have h1:∀vs,v = .agg vs->False:=by intro vs e;subst e;unfold Value.okWide at a;cases f<;>first|(cases i;done)|(simp[Cell.okWide,Cell.ok,j]at a)
        have k:v.cells = #[v]:=by cases v<;>first|rfl|exact(h1 _ rfl).elim
        rw[k];rfl
  simp_all
def O5{f:Func}{s:ChangeSpec}{W': World}{args:Array Value}{a i:List (DataW H)}{c:List MemPlace}{tb:TypeId}(hl:laidOutB P=true)(hv:s.vars=[])(hr:f.resultTypes = #[tb])(hb:P.underlying tb=some .bool)
    (j:∀t∈f.params.toList,P.readableRec t=true/\t<P.types.size) (hs:(s.fn H (a++i))={ results:=[.lit (.bool true)],args:=a })
    (hW:DataW.Whole eh P f.params.toList s.vars false W args.toList a i c) (e:Below W.heap.size W W'):s.post eh P f false true false false W args (.bool true) W':= by
  have hlt:=hW.lt;have l:=hW;obtain⟨p,q,z,k,rfl,r,u⟩:=hW;rw[hv]at k;have m:i=[]/\q=[]:=by
    cases i with
    |nil=>exact⟨rfl,k⟩
    |cons g i=>exact k.elim
  obtain⟨rfl,rfl⟩:=m;refine⟨a,[],_,[],p,[],l, ?_, ?_, ?_, ?_,λh=>Wu⟩
  · rw[hs,hr]
    exact⟨[],[],⟨1,by simp[DataW.trod,Value.cells,hb]⟩,rfl,rfl⟩
  · rw[hs]
    have w:∀(ts:List TypeId) (vs:List Value) (a:List (DataW H)) (ps:List MemPlace),(∀t∈ts,P.readableRec t=true/\t<P.types.size)->(∀x∈ps,x.block<W.heap.size)->DataW.TrodAll eh P W 0 (λ_=>true) true ts vs a ps->
        DataW.TrodAll eh P W' 0 (λb=>decide (b<W.heap.size)) true ts vs a ps:=by
      intro ts;induction ts with
      |nil=>intro vs a ps _ _ h;cases vs<;>cases a<;>exact h
      |cons t ts E=>
        intro vs a ps ht hp h;cases vs with
        |nil=>cases a<;>exact h.elim
        |cons v vs=>
          cases a with
          |nil=>exact h.elim
          |cons d a=>obtain⟨y,o,h1,h2,rfl⟩:=h;exact⟨y,o,Below.trod hl (ht t Wa).1 (ht t Wa).2 h1 e (λx Y=>hp x Yo),E vs a o (λt' n=>ht t' (by simp[n])) (λx Y=>hp x Yo) h2,rfl⟩
    simp_all
  · rw[hs,hv];rfl
  · exact e.frame _
def Hs{J:List AV}(h:AN P f J (.bool true)){args:Array Value}(a:Aq (λb _=>b<W.heap.size) W)(hl:AL (old W) W J args.toList):Calls P f args W λe W'=> e = .returned (.bool true)/\Below W.heap.size W W':= by refine(h.2.2 _ W args (λb o hb=>hb) a hl).mono ?_;rintro e w' ⟨c,h1,h2,u,rfl,h3⟩;refine⟨by rw[show u = .bool true from h3],⟨h1.os,h1.tape,h1.output,h1.size,λk hk=>h1.fr k hk Wa (λj r h=>Wm)⟩⟩
end
end Go.Av
