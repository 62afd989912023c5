/- Joined texts. -/
import Derived.Below
import Derived.Lib.LaidU8
import Derived.Lib.ItoaNum
import Derived.Test.YtimbiifcnhgcoaaGreatDoorAvLaw
set_option linter.all false
set_option maxRecDepth 100000
open Go Go.Av
variable{b:Nat}{w:World}
namespace Go.Av
open Go Go.RowKit
variable [AL]
def y5{P:Program}{f:FuncId}{args:List AV}{r:AV}(O:Ax P f)(ha:aA args=true)
    (h:∀(im:Nat->Nat->Prop) (w:World) (J:Array Value),(∀b o,im b o->b<w.heap.size)->Aq im w->AM ⟨[],[],im⟩ w args J.toList->
      Calls P f J w λe w'=> (∃u,e = .returned u/\Aa ⟨[],[],im⟩ w' r u)/\Below w.heap.size w w'):AN P f args r:=by
  refine⟨O,ha,λim w J d g i=>(h im w J d g i).mono ?_⟩;rintro e w' ⟨⟨u,rfl,hu⟩,hb⟩;have a:∀b o,b<w.heap.size->w'.cell? ⟨b,o,none⟩=w.cell? ⟨b,o,none⟩/\w'.frozen? ⟨b,o,none⟩=w.frozen? ⟨b,o,none⟩:=λb o c=>cI (hb.block b c)
  exact⟨im,⟨⟨λb o X=>⟨X,(a b o (d b o X)).1⟩,λ_ _ h=>h,λ_ r h=>⟨r,h, .inl rfl⟩⟩,hb.size,hb.os,hb.tape,hb.output,λb c _ _=>hb.block b c,λb o c _ _=>a b o c,
    λ_ _ h => .inl h,λ_ h => .inl h,λk r h=>Wp⟩,λb o X=>Nat.lt_of_lt_of_le (d b o X) hb.size,u,rfl,hu⟩
def HX{g:Gh}{w:World}{k:IntKind}:∀a:List Int,AM g w (a.map (AV.int k)) (a.map (Value.int k))
  |[]=>rfl
  |z::a=>⟨_,_,rfl,rfl,HX a⟩
theorem Co{g:Gh}{w:World}{k:IntKind}:∀ {a:List Int} {vs:List Value},AM g w (a.map (AV.int k)) vs->vs=a.map (Value.int k)
  |[],_,h=>h
  |_::_,_,⟨_,_,e,b,c⟩=>by rw[e,show _=_ from b,Co c];rfl
def NV{k:IntKind}{c:List Int}(h:∀(i:Nat) (z:Int),c[i]? =some z->w.cell? ⟨b,i,none⟩=some (.int k z)):
    Aa ⟨[],[],λb _=>b<w.heap.size⟩ w (.ac (.agg (c.map (AV.int k)))) (.pointer (some ⟨b,0,none⟩)):=by
  refine⟨b,0, .agg (c.map (Value.int k)).toArray,rfl,λj u hj=> ?_,⟨_,rfl,HX c,λu d=> ?_⟩⟩
  · have a:(c.map (Value.int k))[j]? =some u:=by simpa [Value.cells]using hj
    rw[List.getElem?_map]at a;obtain⟨z,hz,rfl⟩:=Option.map_eq_some_iff.1 a;rw[Nat.zero_add];have O:=h j z hz;refine⟨?_,O,rfl⟩;unfold World.cell? at O;cases hb:w.heap[b]? with
    |none=>simp[hb]at O
    |some x=>exact(Array.getElem?_eq_some_iff.1 hb).1
  · simp only[List.mem_map]at d
    obtain⟨z,_,rfl⟩:=d;rfl
def xO{g:Gh}{k:IntKind}{a:List Int}(h:Aa g w (.ac (.agg (a.map (AV.int k)))) (.pointer (some ⟨b,0,none⟩)))(i:Nat)(z:Int)(hz:a[i]? =some z):w.cell? ⟨b,i,none⟩=some (.int k z):=by
  obtain⟨j,o,V,e,d,⟨vs,rfl,c,_⟩⟩:=h;cases e;have f:=Co c;have:=(d i (.int k z) (by show vs[i]? =_;rw[<-Array.getElem?_toList,f,List.getElem?_map,hz];rfl)).2.1
  simpa using this
def aD3{t:TypeId}{u:Value}(h:w.cell? ⟨b,0,none⟩=some (.iface t u)):
    Aa ⟨[],[],λb _=>b<w.heap.size⟩ w (.ac (.iface t .undef)) (.pointer (some ⟨b,0,none⟩)):=by
  refine⟨b,0, .iface t u,rfl,λj v hj=> ?_,⟨u,rfl,trivial⟩⟩;have a:j=0/\v = .iface t u:=by
    cases j with
    |zero=>simp[Value.cells]at hj;exact⟨rfl,hj.symm⟩
    |succ j=>simp[Value.cells]at hj
  obtain⟨rfl,rfl⟩:=a;refine⟨?_,h,rfl⟩;unfold World.cell? at h;cases hb:w.heap[b]? with
  |none=>simp[hb]at h
  |some x=>exact(Array.getElem?_eq_some_iff.1 hb).1
def Kr{g:Gh}{t:TypeId}(h:Aa g w (.ac (.iface t .undef)) (.pointer (some ⟨b,0,none⟩))):∃u,w.cell? ⟨b,0,none⟩=some (.iface t u):=by obtain⟨c,o,V,e,a,⟨u,rfl,_⟩⟩:=h;cases e;exact⟨u,by simpa using (a 0 (.iface t u) rfl).2.1⟩
def y6:List Int:=(List.range 16).flatMap λi=>[(Lib.accLo i:Int),(Lib.accHi i:Int)]
theorem Ew(c:Nat)(h:c<256):Lib.firstTab[c]? =some (Lib.firstT c:Int):=by simp[Lib.firstTab,h]
def xQ:∀i:Fin 16,y6[2 * i.val]? =some (Lib.accLo i.val:Int)/\y6[2 * i.val+1]? =some (Lib.accHi i.val:Int):=Wd
theorem Mi:y6.length=32:=Wd
theorem Pj{g:Gh}{a b:Nat}(h3:Aa g w (.ac (.agg (Lib.firstTab.map (AV.int .u8)))) (.pointer (some ⟨a,0,none⟩)))(h4:Aa g w (.ac (.agg (y6.map (AV.int .u8)))) (.pointer (some ⟨b,0,none⟩))):Lib.Utf8Tabs a b w:=
  ⟨λc O=>xO h3 c _ (Ew c O),λi X=>⟨xO h4 _ _ (xQ ⟨i,X⟩).1,xO h4 _ _ (xQ ⟨i,X⟩).2⟩⟩
def aBe{c d:Nat}(h:Lib.Utf8Tabs c d w):Aa ⟨[],[],λb _=>b<w.heap.size⟩ w (.ac (.agg (Lib.firstTab.map (AV.int .u8)))) (.pointer (some ⟨c,0,none⟩)):=
  NV λi z hz=>by
    have a:i<256:=by have:=(List.getElem?_eq_some_iff.1 hz).1;simpa [Lib.firstTab]using this
    rw[Ew i a]at hz
    cases hz
    exact h.1 i a
def aD4{f d:Nat}(h:Lib.Utf8Tabs f d w):Aa ⟨[],[],λb _=>b<w.heap.size⟩ w (.ac (.agg (y6.map (AV.int .u8)))) (.pointer (some ⟨d,0,none⟩)):=
  NV λi z hz=>by
    have g:i<32:=by have:=(List.getElem?_eq_some_iff.1 hz).1;rwa [Mi]at this
    rcases Nat.mod_two_eq_zero_or_one i with e|e
    · have a:=(xQ ⟨i/2,om⟩).1
      have c:=(h.2 (i/2) om).1
      simp only at a
      rw[show 2 * (i/2)=i by omega]at a c
      rw[a]at hz
      cases hz
      exact c
    · have a:=(xQ ⟨i/2,om⟩).2
      have c:=(h.2 (i/2) om).2
      simp only at a
      rw[show 2 * (i/2)+1=i by omega]at a c
      rw[a]at hz
      cases hz
      exact c
end Go.Av
