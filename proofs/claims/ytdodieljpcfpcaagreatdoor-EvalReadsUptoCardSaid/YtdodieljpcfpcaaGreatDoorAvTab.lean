/- Joined texts. -/
import Derived.Below
import Derived.Lib.LaidU8
import Derived.Lib.ItoaNum
import Derived.Test.YtdodieljpcfpcaaGreatDoorAvLaw
set_option linter.all false
set_option maxRecDepth 100000
open Go Go.Av
variable{b:Nat}{w:World}
namespace Go.Av
open Go Go.RowKit
variable [AK]
def y5{P:Program}{f:FuncId}{args:List AV}{r:AV}(O:Az P f)(ha:aB args=true)
    (h:∀(im:Nat->Nat->Prop) (w:World) (J:Array Value),(∀b o,im b o->b<w.heap.size)->Aq im w->AL ⟨[],[],im⟩ w args J.toList->
      Calls P f J w λe w'=> (∃u,e = .returned u/\Ab ⟨[],[],im⟩ w' r u)/\Below w.heap.size w w'):AN P f args r:=by
  refine⟨O,ha,λim w J c d hl=>(h im w J c d hl).mono ?_⟩;rintro e w' ⟨⟨u,rfl,hu⟩,hb⟩;have a:∀b o,b<w.heap.size->w'.cell? ⟨b,o,none⟩=w.cell? ⟨b,o,none⟩/\w'.frozen? ⟨b,o,none⟩=w.frozen? ⟨b,o,none⟩:=λb o hlt=>cF (hb.block b hlt)
  exact⟨im,⟨⟨λb o X=>⟨X,(a b o (c b o X)).1⟩,λ_ _ h=>h,λ_ r h=>⟨r,h, .inl rfl⟩⟩,hb.size,hb.os,hb.tape,hb.output,λb hlt _ _=>hb.block b hlt,λb o hlt _ _=>a b o hlt,
    λ_ _ h => .inl h,λ_ h => .inl h,λk r h=>Wm⟩,λb o X=>Nat.lt_of_lt_of_le (c b o X) hb.size,u,rfl,hu⟩
def HQ{g:Gh}{w:World}{k:IntKind}:∀a:List Int,AL g w (a.map (AV.int k)) (a.map (Value.int k))
  |[]=>rfl
  |z::a=>⟨_,_,rfl,rfl,HQ a⟩
theorem Cm{g:Gh}{w:World}{k:IntKind}:∀ {a:List Int} {vs:List Value},AL g w (a.map (AV.int k)) vs->vs=a.map (Value.int k)
  |[],_,h=>h
  |_::_,_,⟨_,_,e,h1,h2⟩=>by rw[e,show _=_ from h1,Cm h2];rfl
def Jb{k:IntKind}{c:List Int}(h:∀(i:Nat) (z:Int),c[i]? =some z->w.cell? ⟨b,i,none⟩=some (.int k z)):
    Ab ⟨[],[],λb _=>b<w.heap.size⟩ w (.ab (.agg (c.map (AV.int k)))) (.pointer (some ⟨b,0,none⟩)):=by
  refine⟨b,0, .agg (c.map (Value.int k)).toArray,rfl,λj u hj=> ?_,⟨_,rfl,HQ c,λu d=> ?_⟩⟩
  · have a:(c.map (Value.int k))[j]? =some u:=by simpa [Value.cells]using hj
    rw[List.getElem?_map]at a;obtain⟨z,hz,rfl⟩:=Option.map_eq_some_iff.1 a;rw[Nat.zero_add];have O:=h j z hz;refine⟨?_,O,rfl⟩;unfold World.cell? at O;cases hb:w.heap[b]? with
    |none=>simp[hb]at O
    |some x=>exact(Array.getElem?_eq_some_iff.1 hb).1
  · simp only[List.mem_map]at d
    obtain⟨z,_,rfl⟩:=d;rfl
def xQ{g:Gh}{k:IntKind}{a:List Int}(h:Ab g w (.ab (.agg (a.map (AV.int k)))) (.pointer (some ⟨b,0,none⟩)))(i:Nat)(z:Int)(hz:a[i]? =some z):w.cell? ⟨b,i,none⟩=some (.int k z):=by
  obtain⟨d,o,V,e,c,⟨vs,rfl,hl,_⟩⟩:=h;cases e;have hv:=Cm hl;have:=(c i (.int k z) (by show vs[i]? =_;rw[<-Array.getElem?_toList,hv,List.getElem?_map,hz];rfl)).2.1
  simpa using this
def NJ{t:TypeId}{u:Value}(h:w.cell? ⟨b,0,none⟩=some (.iface t u)):
    Ab ⟨[],[],λb _=>b<w.heap.size⟩ w (.ab (.iface t .undef)) (.pointer (some ⟨b,0,none⟩)):=by
  refine⟨b,0, .iface t u,rfl,λj v hj=> ?_,⟨u,rfl,trivial⟩⟩;have a:j=0/\v = .iface t u:=by
    cases j with
    |zero=>simp[Value.cells]at hj;exact⟨rfl,hj.symm⟩
    |succ j=>simp[Value.cells]at hj
  obtain⟨rfl,rfl⟩:=a;refine⟨?_,h,rfl⟩;unfold World.cell? at h;cases hb:w.heap[b]? with
  |none=>simp[hb]at h
  |some x=>exact(Array.getElem?_eq_some_iff.1 hb).1
def Kk{g:Gh}{t:TypeId}(h:Ab g w (.ab (.iface t .undef)) (.pointer (some ⟨b,0,none⟩))):∃u,w.cell? ⟨b,0,none⟩=some (.iface t u):=by obtain⟨c,o,V,e,a,⟨u,rfl,_⟩⟩:=h;cases e;exact⟨u,by simpa using (a 0 (.iface t u) rfl).2.1⟩
def vY:List Int:=(List.range 16).flatMap λi=>[(Lib.accLo i:Int),(Lib.accHi i:Int)]
theorem Eo(c:Nat)(h:c<256):Lib.firstTab[c]? =some (Lib.firstT c:Int):=by simp[Lib.firstTab,h]
def xR:∀i:Fin 16,vY[2 * i.val]? =some (Lib.accLo i.val:Int)/\vY[2 * i.val+1]? =some (Lib.accHi i.val:Int):=Wc
theorem L7:vY.length=32:=Wc
theorem Pa{g:Gh}{a b:Nat}(h3:Ab g w (.ab (.agg (Lib.firstTab.map (AV.int .u8)))) (.pointer (some ⟨a,0,none⟩)))(h4:Ab g w (.ab (.agg (vY.map (AV.int .u8)))) (.pointer (some ⟨b,0,none⟩))):Lib.Utf8Tabs a b w:=
  ⟨λc O=>xQ h3 c _ (Eo c O),λi X=>⟨xQ h4 _ _ (xR ⟨i,X⟩).1,xQ h4 _ _ (xR ⟨i,X⟩).2⟩⟩
def Pb{a c:Nat}(h:Lib.Utf8Tabs a c w):Ab ⟨[],[],λb _=>b<w.heap.size⟩ w (.ab (.agg (Lib.firstTab.map (AV.int .u8)))) (.pointer (some ⟨a,0,none⟩)):=
  Jb λi z hz=>by
    have hlt:i<256:=by have:=(List.getElem?_eq_some_iff.1 hz).1;simpa [Lib.firstTab]using this
    rw[Eo i hlt]at hz
    cases hz
    exact h.1 i hlt
def Ts{c a:Nat}(h:Lib.Utf8Tabs c a w):Ab ⟨[],[],λb _=>b<w.heap.size⟩ w (.ab (.agg (vY.map (AV.int .u8)))) (.pointer (some ⟨a,0,none⟩)):=
  Jb λi z hz=>by
    have hlt:i<32:=by have:=(List.getElem?_eq_some_iff.1 hz).1;rwa [L7]at this
    rcases Nat.mod_two_eq_zero_or_one i with e|e
    · have h1:=(xR ⟨i/2,om⟩).1
      have h2:=(h.2 (i/2) om).1
      simp only at h1
      rw[show 2 * (i/2)=i by omega]at h1 h2
      rw[h1]at hz
      cases hz
      exact h2
    · have h1:=(xR ⟨i/2,om⟩).2
      have h2:=(h.2 (i/2) om).2
      simp only at h1
      rw[show 2 * (i/2)+1=i by omega]at h1 h2
      rw[h1]at hz
      cases hz
      exact h2
end Go.Av
