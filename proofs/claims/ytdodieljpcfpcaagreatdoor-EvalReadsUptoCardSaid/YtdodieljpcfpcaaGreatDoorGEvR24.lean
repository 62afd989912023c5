/- Joined texts. -/
import Derived.Test.YtdodieljpcfpcaaGreatDoorGEvR23
set_option maxRecDepth 100000
set_option maxHeartbeats 16000000
set_option linter.all false
open Nat (zero_le)
open Go Go.Av Go.Proofs.YtdodieljpcfpcaaGreatDoor Go.Proofs.Tryz
variable{e0:AV}{args:Array Operand}{p:Array TypeId}{z0:Int}{a ws:List AV}{T':List Tok}{i b n:Nat}{ti:TI}{tk:Tk}{T:TypeId}
namespace Go.Av
open Go Go.Proofs.YtdodieljpcfpcaaGreatDoor
variable [AK]
class Hot(t:Tk):Prop where
 hot:True
instance {k z:Nat}:Hot (.own k z):=⟨trivial⟩
section
variable {P:Program} {f:FuncId} {x y z:AV} {r:List AV} {α:Type} {E:α->AV} {Q:α->Prop} {xs:List AV} {t:Tk}
theorem EC.a6{vs:List AV}(h:EC P f ws E Q)(hw:AA vs ws):EC P f vs E Q:=
 let ⟨a,u,h1,h2,h3⟩:=h.ex
 ⟨a,u,h1,λg w v hv=>h2 g w v (hw g w v hv),h3⟩
instance [Hot t][h:EC P f (.slice xs .no::r) E Q]:EC P f (.slice xs t::r) E Q:=h.a6 (by repeat' first|exact aD _|refine AA.cons (aG _) ?_|exact AA.cons (AC.no (aD _)) (aD _))
end
section
variable {P:Program} [Lay P] {A:Array Oper} {G:Bool} {K:AX->AE->St->Prop} {C:List Oper} {I:List Ak} {s:AE} {H:St} {d:Tmp} {R:TypeId} {D:String} {S:Array Edge}
def AD.iy{x i:Operand}{xs:List AV}{b:IntKind}{n:Int}{j:Nat}{α:Type}{L:List α}{E:α->AV}{te:TI}(k:∀h:j<L.length,xs[j]? =some (E L[j])->AD P A G K C (.pure::I) ((d, .ab (E L[j]))::s) H)(hT:ty? P T=some ti:=by exact rfl)(hk:ti.kind = .slice:=by exact rfl)(hE:ty? P ti.elem=some te:=by exact rfl)(Y:ev? s x=some (.slice xs tk):=by exact rfl)(X:ev? s i=some (.int b n):=by exact rfl)(a:Ay xs L E:=by infer_instance)(hj:n=(j:Int):=by exact rfl)(hl:j<L.length:=by first|omega|grind)(hf:fits te.agg te.size (E L[j])=true:=by exact rfl):
  AD P A G K (⟨some d, .indexAddr T x i,R,D,S,none⟩::C) I s H:=by
 have h:xs[j]? =some (E L[j]):=by rw[a.eq];simp[hl]
 exact HS hT hk hE Y X hj h hf (k hl h)
theorem AD.sz{x:Operand}{lo X:Option Operand}{xs:List UInt8}{nl nh:Int}(k:AD P A G K C (.pure::I) ((d, .str ((xs.take nh.toNat).drop nl.toNat))::s) H)(hT:ty? P T=some ti:=by exact rfl)(hk:ti.kind = .string:=by exact rfl)(Y:ev? s x=some (.str xs):=by exact rfl)
  (hl:bnd? s lo 0=some nl:=by exact rfl) (hh:bnd? s X xs.length=some nh:=by exact rfl) (h:0<=nl/\nl<=nh/\nh<=(xs.length:Int):=by first|omega|grind):AD P A G K (⟨some d, .slice T x lo X none,R,D,S,none⟩::C) I s H:=
 cR (hT:=hT) (hk:=hk) (Y:=Y) (hl:=hl) (hh:=hh) (el:=by omega) (eh:=by omega) (hy:=rfl) nl.toNat nh.toNat k
end
class Z(n:Nat):Prop where
 le:n<=1048576
instance {α:Type}:Z ([]:List α).length:=⟨zero_le _⟩
theorem Z.of{a:Nat}[h:Z b](k:a<=b):Z a:=⟨Nat.le_trans k h.le⟩
class By(α:Type)(f:outParam (α->Nat)):Prop where
 pos:∀x:α,1<=f x
instance {α:Type}{f:α->Nat}{L:List α}{k:Nat}{h:k<L.length}[Z (aA f L)]:Z (f (L[k]'h)) := .of (aN (List.getElem_mem h))
instance {α:Type}{f:α->Nat}{L:List α}[p:By α f][Z (aA f L)]:Z L.length := .of (aJ p.pos L)
section
variable {P:Program} [Lay P] {N:Nat} {D:List Deferred} {c:Code} {K:AX->AE->St->Prop} {s:AE} {H:St}
end
section
variable {P:Program} [Lay P] {N:Nat} {D:List Deferred} {c:Code} {K:AX->AE->St->Prop} {s:AE} {H:St}
structure Bq(P:Program)[Lay P](N:Nat)(D:List Deferred)(c:Code)(s:AE)(H:St)(i:Nat)(xs:List AV):Prop where
 le:BC N D s H->xs.length<=9223372036854775807
theorem Bq.f{b j i:Nat}{xs:List AV}(hh:wW P c = .f b j i:=by exact rfl)(hb:MV s H b j=some (.slice xs tk):=by exact rfl):Bq P N D c s H i xs:=⟨λhr=>by
 obtain⟨_,_,_,h1⟩:=GE hr hb
 exact Dd h1⟩
theorem Bq.g{b j d i e:Nat}{xs xs2:List AV}{a:Tk}{y:AV}(hh:wW P c = .g b j d i:=by exact rfl)(hb:MV s H b j=some (.slice xs tk):=by exact rfl)(Y:xs[e]? =some y:=by assumption)(h2:Ut d y=some (.slice xs2 a):=by exact rfl):Bq P N D c s H i xs2:=⟨λhr=>Ov hr hb Y h2⟩
structure Rg{γ:Type}(F:γ->AV)(t z:Nat)(M:Nat->Nat)(o i:Nat)(s:AE)(H:St)(k:Nat)(s': AE)(σ': St):Prop where
 ex:∃ys:List γ,ys.length<=M (k+1)/\lk s' o = .slice (ys.map F) (.own t z)/\Sub ((i, .int .i64 ((k+1:Nat):Int))::nub [i,o] s) s'/\ (⟨σ'.B.take H.B.length,σ'.T.take H.T.length⟩:St)=⟨H.B,H.T.set t (.len ys.length)⟩
theorem GG{n m:Nat}{x:Tok}(Y:x.aa n m=true):∀ {T:List Tok} (t:Nat),aL n m T=true->aL n m (T.set t x)=true
 |[],_,_=>rfl
 |y::T,0,h=>by simp only[aL,Bool.and_eq_true]at h;simp only[List.set_cons_zero,aL,Y,h.2];rfl
 |y::T,t+1,h=>by simp only[aL,Bool.and_eq_true]at h;simp only[List.set_cons_succ,aL,h.1,GG Y t h.2];rfl
theorem EX.R(o:Nat){γ:Type}(F:γ->AV)(M:Nat->Nat){a:List γ}{t z:Nat}{α:Type}{xs p:List AV}{L:List α}{E:α->AV}
  (cons:∀(k:Nat) (h:k<L.length) (ys:List γ),ys.length<=M k->decide ((k:Int)<(L.length:Int))=true->decide ((k:Int)<(xs.length:Int))=true->xs[k]? =some (E L[k])->L[k]∈L->L.length<=9223372036854775807->
   EX P N D c (thn (Rg F t z M o i s H k) K) ((o, .slice (ys.map F) (.own t z))::(i, .int .i64 k)::nub [i,o] s) ⟨H.B,H.T.set t (.len ys.length)⟩)
  (nil:∀(ys:List γ),ys.length<=M L.length->decide ((L.length:Int)<(L.length:Int))=false->decide ((L.length:Int)<(xs.length:Int))=false->EX P N D c (thn (λ_ _=>False) K) ((o, .slice (ys.map F) (.own t z))::(i, .int .i64 L.length)::nub [i,o] s) ⟨H.B,H.T.set t (.len ys.length)⟩)
  (w:Bq P N D c s H i xs:=by first|exact .f|exact .g|fail) (hm:Ay xs L E:=by infer_instance) (X:lk? s i=some (.int .i64 ((0:Nat):Int)):=by exact rfl)
  (ho:lk? s o=some (.slice p (.own t z)):=by exact rfl) (h0:p=a.map F:=by first|exact rfl|exact List.map_nil.symm) (hT:H.T[t]? =some (.len a.length):=by exact rfl) (x:a.length<=M 0:=by first|exact Nat.zero_le _|(dsimp only;omega)|simp) (hF:∀y,(F y).K=true:=by intro y;first|exact rfl|simp[AV.K,aB]):EX P N D (.loop c) K s H:=by
 refine x9 λhr=> ?_
 have hl:=w.le hr;have he:=hm.eq;have j:xs.length=L.length:=Zb
 have d:=hr.state;have ht:t<H.T.length:=(List.getElem?_eq_some_iff.1 hT).1;subst h0;have l:H.T.set t (.len a.length)=H.T:=by
  apply List.ext_getElem?;intro q;by_cases e:t=q
  ·subst e;rw[List.getElem?_set_self ht,hT]
  ·rw[List.getElem?_set_ne e]
 refine EX.loop (λm v r=>∃(k:Nat) (ys:List γ),m=L.length-k/\k<=L.length/\ys.length<=M k/\v=(o, .slice (ys.map F) (.own t z))::(i, .int .i64 k)::nub [i,o] s/\r=⟨H.B,H.T.set t (.len ys.length)⟩)
  (n:=L.length) (s0:=(o, .slice (a.map F) (.own t z))::(i, .int .i64 ((0:Nat):Int))::nub [i,o] s) ⟨g9 ho,g9 X,JH _ _⟩ ⟨0,a,rfl,zero_le _,x,rfl,by rw[l]⟩ ?_
 rintro m v r ⟨k,ys,rfl,hk,hy,rfl,rfl⟩;by_cases hlt:k<L.length
 ·refine(cons k hlt ys hy (by simp[hlt]) (by rw[j];simp[hlt]) (by rw[he];simp[hlt]) (List.getElem_mem hlt) om).mono λe s' σ' h=> ?_
  cases e with
  |normal=>
   obtain⟨b,h1,h2,h3,h4⟩:=h.ex;refine⟨L.length-(k+1),om,(o, .slice (b.map F) (.own t z))::(i, .int .i64 ((k+1:Nat):Int))::nub [i,o] s,⟨h2,h3⟩, ?_, ?_,k+1,b,rfl,hlt,h1,rfl,h4⟩
   ·have O:aB (b.map F)=true:=Go.Proofs.YtdodieljpcfpcaaGreatDoor.bF hF b;have u:Nat.blt t H.T.length=true:=by rw[Nat.blt_eq];exact ht
    rw[aM,aM,hr.bs,AV.aa,aC _ _ _ O];simp only[u];rfl
   ·rw[show List.take H.B.length σ'.B=H.B from congrArg St.B h4,show List.take H.T.length σ'.T=H.T.set t (.len b.length) from congrArg St.T h4];rw[Bool.and_eq_true]at d ⊢;exact⟨d.1,GG rfl t d.2⟩
  |_=>exact h
 ·obtain rfl:k=L.length:=om
  refine(nil ys hy Wa (by rw[j];simp)).mono λe s' σ' h=> ?_
  cases e with
  |normal=>exact h.elim
  |_=>exact h
theorem aC3{α:Type}{f:α->Nat}:∀ {l:List α} {k:Nat} (h:k<l.length),aA f (l.take (k+1))=aA f (l.take k)+f l[k]
 |x::l,0,_=>by simp[aA]
 |x::l,k+1,h=>by simp only[List.take_succ_cons,aA,List.getElem_cons_succ];rw[aC3 Wp];omega
def aC4{α:Type}(f:α->Nat):∀(l:List α) (k:Nat),aA f (l.take k)<=aA f l
 |[],k=>by simp
 |x::l,0=>zero_le _
 |x::l,k+1=>by simp only[List.take_succ_cons,aA];have:=aC4 f l k;omega
def EZ{α:Type}{f g:α->Nat}(h:∀x,f x<=g x):∀l:List α,aA f l<=aA g l
 |[]=>Nat.le_refl _
 |x::l=>by simp only[aA];have:=EZ h l;have:=h x;omega
def EX.Rw(o:Nat){γ:Type}(F:γ->AV)(m0:Nat){α:Type}(a:α->Nat){b:List γ}{t z:Nat}{xs d:List AV}{L:List α}{E:α->AV}
  (cons:∀(k:Nat) (h:k<L.length) (ys:List γ) (S:Nat),ys.length<=m0+S->S+a L[k]<=aA a L->decide ((k:Int)<(L.length:Int))=true->decide ((k:Int)<(xs.length:Int))=true->xs[k]? =some (E L[k])->L[k]∈L->L.length<=9223372036854775807->
   EX P N D c (thn (Rg F t z (λ_=>m0+S+a L[k]) o i s H k) K) ((o, .slice (ys.map F) (.own t z))::(i, .int .i64 k)::nub [i,o] s) ⟨H.B,H.T.set t (.len ys.length)⟩)
  (nil:∀(ys:List γ),ys.length<=m0+aA a L->decide ((L.length:Int)<(L.length:Int))=false->decide ((L.length:Int)<(xs.length:Int))=false->EX P N D c (thn (λ_ _=>False) K) ((o, .slice (ys.map F) (.own t z))::(i, .int .i64 L.length)::nub [i,o] s) ⟨H.B,H.T.set t (.len ys.length)⟩)
  (q:Bq P N D c s H i xs:=by first|exact .f|exact .g|fail) (u:Ay xs L E:=by infer_instance) (X:lk? s i=some (.int .i64 ((0:Nat):Int)):=by exact rfl)
  (v:lk? s o=some (.slice d (.own t z)):=by exact rfl) (j:Ay d b F:=by first|infer_instance|exact⟨List.map_nil.symm⟩|exact⟨rfl⟩) (hT:H.T[t]? =some (.len b.length):=by first|exact rfl|(simp only[List.length_append];exact rfl)) (r:b.length<=m0:=by first|exact Nat.zero_le _|((try dsimp only at *);omega)|((try simp only[List.length_append,List.length_cons,List.length_nil]at *);omega)) (hF:∀y,(F y).K=true:=by intro y;first|exact rfl|simp[AV.K,aB,As.K]):EX P N D (.loop c) K s H:=
 EX.R o F (λk=>m0+aA a (L.take k)) (λk h ys hy n p x m l=>by
  have h1:=aC3 (f:=a) h
  have h2:=aC4 a L (k+1)
  refine(cons k h ys (aA a (L.take k)) hy om n p x m l).mono λe s' σ' h=> ?_
  cases e with
  |normal=>obtain⟨ys,h3,h4⟩:=h.ex;exact⟨ys,Nat.le_trans h3 om,h4⟩
  |_=>exact h) (λys hy=>nil ys YY) q u X v j.eq hT (Nat.le_trans r (Nat.le_add_right ..)) hF
def EX.Rn(o:Nat){γ:Type}(F:γ->AV){α:Type}(b:α->Nat){a:List γ}{t z:Nat}{xs d:List AV}{L:List α}{E:α->AV}
  (cons:∀(k:Nat) (h:k<L.length) (ys:List γ) (S:Nat),ys.length<=a.length+S->S+b L[k]<=aA b L->decide ((k:Int)<(L.length:Int))=true->decide ((k:Int)<(xs.length:Int))=true->xs[k]? =some (E L[k])->L[k]∈L->L.length<=9223372036854775807->
   EX P N D c (thn (Rg F t z (λ_=>a.length+S+b L[k]) o i s H k) K) ((o, .slice (ys.map F) (.own t z))::(i, .int .i64 k)::nub [i,o] s) ⟨H.B,H.T.set t (.len ys.length)⟩)
  (nil:∀(ys:List γ),ys.length<=a.length+aA b L->decide ((L.length:Int)<(L.length:Int))=false->decide ((L.length:Int)<(xs.length:Int))=false->EX P N D c (thn (λ_ _=>False) K) ((o, .slice (ys.map F) (.own t z))::(i, .int .i64 L.length)::nub [i,o] s) ⟨H.B,H.T.set t (.len ys.length)⟩)
  (j:Bq P N D c s H i xs:=by first|exact .f|exact .g|fail) (l:Ay xs L E:=by infer_instance) (X:lk? s i=some (.int .i64 ((0:Nat):Int)):=by exact rfl)
  (m:lk? s o=some (.slice d (.own t z)):=by exact rfl) (e:Ay d a F:=by first|infer_instance|exact⟨List.map_nil.symm⟩|exact⟨rfl⟩) (hT:H.T[t]? =some (.len a.length):=by first|exact rfl|(simp only[List.length_append];exact rfl)) (hF:∀y,(F y).K=true:=by intro y;first|exact rfl|simp[AV.K,aB,As.K]):EX P N D (.loop c) K s H:=
 EX.Rw o F a.length b cons nil j l X m e hT (Nat.le_refl _) hF
def EX.R1(o:Nat){γ:Type}(F:γ->AV){a:List γ}{t z:Nat}{α:Type}{xs b:List AV}{L:List α}{E:α->AV}
  (cons:∀(k:Nat) (h:k<L.length) (ys:List γ),ys.length<=a.length+k->decide ((k:Int)<(L.length:Int))=true->decide ((k:Int)<(xs.length:Int))=true->xs[k]? =some (E L[k])->L[k]∈L->L.length<=9223372036854775807->
   EX P N D c (thn (Rg F t z (λk=>a.length+k) o i s H k) K) ((o, .slice (ys.map F) (.own t z))::(i, .int .i64 k)::nub [i,o] s) ⟨H.B,H.T.set t (.len ys.length)⟩)
  (nil:∀(ys:List γ),ys.length<=a.length+L.length->decide ((L.length:Int)<(L.length:Int))=false->decide ((L.length:Int)<(xs.length:Int))=false->EX P N D c (thn (λ_ _=>False) K) ((o, .slice (ys.map F) (.own t z))::(i, .int .i64 L.length)::nub [i,o] s) ⟨H.B,H.T.set t (.len ys.length)⟩)
  (e:Bq P N D c s H i xs:=by first|exact .f|exact .g|fail) (j:Ay xs L E:=by infer_instance) (X:lk? s i=some (.int .i64 ((0:Nat):Int)):=by exact rfl)
  (l:lk? s o=some (.slice b (.own t z)):=by exact rfl) (d:Ay b a F:=by first|infer_instance|exact⟨List.map_nil.symm⟩|exact⟨rfl⟩) (hT:H.T[t]? =some (.len a.length):=by first|exact rfl|(simp only[List.length_append];exact rfl)) (hF:∀y,(F y).K=true:=by intro y;first|exact rfl|simp[AV.K,aB,As.K]):EX P N D (.loop c) K s H:=
 EX.R o F (λk=>a.length+k) cons nil e j X l d.eq hT (Nat.le_refl _) hF
def gr{γ:Type}{F:γ->AV}{t z:Nat}{M:Nat->Nat}{o i:Nat}{s s': AE}{H σ': St}{k:Nat}{ys:List γ}(h0:lk s' o = .slice a (.own t z):=by exact rfl)(c:Ay a ys F:=by infer_instance)
  (hs:Av.Sub ((i, .int .i64 ((k+1:Nat):Int))::nub [i,o] s) s':= by (repeat' first|exact trivial|refine⟨rfl, ?_⟩)) (hσ:(⟨σ'.B.take H.B.length,σ'.T.take H.T.length⟩:St)=⟨H.B,H.T.set t (.len ys.length)⟩:=by first|exact rfl|(simp only[List.length_append,List.length_map];exact rfl)) (b:ys.length<=M (k+1):=by first|((try dsimp only at *);omega)|((try simp only[List.length_append,List.length_cons,List.length_nil]at *);omega)|simp_all|fail):Rg F t z M o i s H k s' σ':= ⟨⟨ys,b,by rw[h0,c.eq],hs,hσ⟩⟩
structure Mg{γ:Type}(F:γ->AV)(Q:Nat->γ->Prop)(o i:Nat)(s:AE)(H:St)(k:Nat)(s': AE)(σ': St):Prop where
 ex:∃y:γ,Q (k+1) y/\Sub ((o,F y)::(i, .int .i64 ((k+1:Nat):Int))::nub [i,o] s) s'/\ (⟨σ'.B.take H.B.length,σ'.T.take H.T.length⟩:St)=H
def Sf(i n o:Nat){γ:Type}(F:γ->AV)(Q:Nat->γ->Prop){b:Nat}{d:γ}(cons:∀(k:Nat) (y:γ),k<n->Q k y->decide ((k:Int)<(n:Int))=true->EX P N D c (thn (Mg F Q o i s H k) K) ((o,F y)::(i, .int .i64 k)::nub [i,o] s) H)
  (nil:∀(k:Nat) (y:γ),n<=k->((k:Int)<=z0\/k<=n)->Q k y->decide ((k:Int)<(n:Int))=false->EX P N D c (thn (λ_ _=>False) K) ((o,F y)::(i, .int .i64 k)::nub [i,o] s) H) (X:lk? s i=some (.int .i64 z0)) (hz0:z0=(b:Int)) (j:lk? s o=some (F d)) (h0:Q b d) (hF:∀y,(F y).K=true):EX P N D (.loop c) K s H:=by
 subst hz0;refine x9 λhr=>EX.loop (λm f a=>∃(k:Nat) (y:γ),m=n-k/\((k:Int)<=(b:Int)\/k<=n)/\Q k y/\f=(o,F y)::(i, .int .i64 k)::nub [i,o] s/\a=H) (n:=n-b) (s0:=(o,F d)::(i, .int .i64 (b:Int))::nub [i,o] s) ⟨g9 j,g9 X,JH _ _⟩ ⟨b,d,rfl, .inl (Int.le_refl _),h0,rfl,rfl⟩ ?_
 rintro m f a ⟨k,y,rfl,hkm,hq,rfl,rfl⟩;by_cases h1:k<n
 ·refine(cons k y h1 hq Xg).mono λe s' σ' h=> ?_
  cases e with
  |normal=>
   obtain⟨g,h2,h3,h4⟩:=h.ex;refine⟨n-(k+1),om,_,h3, ?_, ?_,k+1,g,rfl,om,h2,rfl,h4⟩
   ·rw[aM,aM,hr.bs,aF _ _ _ (hF g)];rfl
   ·rw[show List.take a.B.length σ'.B=a.B from congrArg St.B h4,show List.take a.T.length σ'.T=a.T from congrArg St.T h4];exact hr.state
  |_=>exact h
 ·refine(nil k y om hkm hq Wh).mono λe s' σ' h=> ?_
  cases e with
  |normal=>exact h.elim
  |_=>exact h
def EX.MF{d:Nat}(o:Nat){γ:Type}(F:γ->AV)(Q:Nat->γ->Prop){y0:γ}{α:Type}{xs:List AV}{L:List α}{E:α->AV}(cons:∀(k:Nat) (y:γ),k<L.length->Q k y->decide ((k:Int)<(L.length:Int))=true->decide ((k:Int)<(xs.length:Int))=true->L.length<=9223372036854775807->EX P N D c (thn (Mg F Q o i s H k) K) ((o,F y)::(i, .int .i64 k)::nub [i,o] s) H)
  (nil:∀(k:Nat) (y:γ),L.length<=k->((k:Int)<=z0\/k<=L.length)->Q k y->decide ((k:Int)<(L.length:Int))=false->decide ((k:Int)<(xs.length:Int))=false->EX P N D c (thn (λ_ _=>False) K) ((o,F y)::(i, .int .i64 k)::nub [i,o] s) H) (e:Bq P N D c s H i xs:=by first|exact .f|exact .g|fail) (b:Ay xs L E:=by infer_instance)
  (X:lk? s i=some (.int .i64 z0):=by exact rfl) (hz0:z0=(d:Int):=by exact rfl) (h:lk? s o=some (F y0):=by exact rfl) (h0:Q d y0:=by first|trivial|(dsimp only;omega)|simp) (hF:∀y,(F y).K=true:=by intro y;exact rfl):EX P N D (.loop c) K s H:=by
 refine x9 λhr=> ?_
 have hl:=e.le hr;have a:xs.length=L.length:=by rw[b.eq,List.length_map]
 exact Sf i L.length o F Q (λk y h1 h2 h3=>cons k y h1 h2 h3 (by rw[a];exact h3) om) (λk y h1 b h2 h3=>nil k y h1 b h2 h3 (by rw[a];exact h3)) X hz0 h h0 hF
def mg{γ:Type}{F:γ->AV}{Q:Nat->γ->Prop}{o i:Nat}{s s': AE}{H σ': St}{k:Nat}{y:γ}(h0:lk s' o=F y:=by exact rfl)(hs:Av.Sub ((i, .int .i64 ((k+1:Nat):Int))::nub [i,o] s) s':= by (repeat' first|exact trivial|refine⟨rfl, ?_⟩))(hσ:(⟨σ'.B.take H.B.length,σ'.T.take H.T.length⟩:St)=H:=by exact rfl)
  (a:Q (k+1) y:=by first|trivial|((try dsimp only at *);omega)|simp_all|fail):Mg F Q o i s H k s' σ':= ⟨⟨y,a,⟨h0,hs⟩,hσ⟩⟩
structure Mb(t:Nat)(Q:Bool->Prop)(s:AE)(H:St)(s': AE)(σ': St):Prop where
 ex:∃b:Bool,Q b/\Sub ((t, .bool b)::nub [t] s) s'/\ σ'= H
def aDn(t:Nat):Code->Bool
 | .region _ ops _=>ops.toList.any λo=>match o.dst with
  |some d=>Nat.beq d t
  |none=>false
 |_=>false
def GH:List Oper->List Nat->List Nat
 |[],I=>I
 |o::l,I=>match o.guard with
  |some (j,_)=>GH l (bif Lf j I then I else j::I)
  |none=>GH l I
def Li:List Oper->Option Nat
 |[]=>none
 |[o]=>(match o.op with
  | .pick _ _ _=>o.dst
  |_=>none)
 |_::l=>Li l
def aC5:Code->Option Nat
 | .region _ ops _=>(match GH ops.toList [] with
  |_::_::_=>Li ops.toList
  |_=>none)
 |_=>none
def EX.mA{t:Nat}{y:Code}(h1:EX P N D c (thn (Mb t (λ_=>True) s H) K) s H)(h2:∀b:Bool,EX P N D y K ((t, .bool b)::nub [t] s) H)(hj:aC5 c=some t:=by exact rfl):EX P N D c (thn (EX P N D y K) K) s H:=
 h1.mono λe s' σ' h=>by
  cases e with
  |normal=>obtain⟨b,a,h3,rfl⟩:=h.ex;exact(h2 b).weaken h3
  |_=>exact h
def mb{t:Nat}{Q:Bool->Prop}{b:Bool}{s s': AE}{H σ': St}(h0:lk s' t = .bool b:=by exact rfl)(hs:Av.Sub (nub [t] s) s':= by (repeat' first|exact trivial|refine⟨rfl, ?_⟩))(h:σ'= H:=by exact rfl)(a:Q b:=by first|trivial|omega|(simp_all;done)|grind):Mb t Q s H s' σ':= ⟨⟨b,a,⟨h0,hs⟩,h⟩⟩
def EX.fz(a:Nat){k z j:Nat}{xs:List AV}{y:AV}(h:EX P N D c K ((a, .ab y)::s) ⟨H.B,T'⟩)(Y:lk? s a=some (.an k z n j 0):=by exact rfl)(hT:H.T[k]? =some (.Y xs):=by exact rfl)(hn:xs.length=n:=by exact rfl)(hy:xs[j]? =some y:=by exact rfl)(hT': j5 k (.len (n+1)) H.T some=some T':= by exact rfl):EX P N D c K s H:=
 .via (λc K h=>bY a Y (aY (hT:=hT) (hn:=hn) (hy:=hy) (hT':= hT')) h) h
theorem EX.ad(o z:Nat){k:Nat}(h:EX P N D c K ((o, .slice [] (.own k z))::s) ⟨H.B,T'⟩)(Y:lk? s o=some (.slice [] .nil):=by exact rfl)(hk:dM H.T=some k:=by exact rfl)(hT': kU H.T (.len 0) some=some T':= by exact rfl):EX P N D c K s H:=
 .via (λc K h=>eJ (hk:=hk) (hT':= hT') o false z Y h) h
end
section
variable {P:Program} [Lay P] {A:Array Oper} {G:Bool} {K:AX->AE->St->Prop} {C:List Oper} {I:List Ak} {s:AE} {H:St} {d:Tmp} {R:TypeId} {D:String} {S:Array Edge}
def PW(op:BinOp)(k ky:IntKind)(n:Int):Bool:=match op with
 | .add | .sub | .mul | .and | .or | .xor | .andNot=>decide (ky=k)
 | .shl | .shr=>decide (0<=n)
 | .quo | .rem=>decide (ky=k)&&decide (n≠0)
 |_=>false
def AD.io{e:BinOp}{x y:Operand}{U:TypeId}{k c:IntKind}{m n:Int}(l:∀r:Int,AD P A G K C (.pure::I) ((d, .int k r)::s) H)(Y:ev? s x=some (.int k m):=by exact rfl)(hy:ev? s y=some (.int c n):=by exact rfl)(h:PW e k c n=true:=by first|exact rfl|(simp[PW];done)|(simp[PW];omega)):
  AD P A G K (⟨some d, .binOp e T x y U,R,D,S,none⟩::C) I s H:=by
 have i:∃r:Int,∀w:World,(do eqGuard e T x y (.int k m) (.int c n);Go.binOp e T (.int k m) (.int c n):Sem Value).run P w = .ok (.int k r) w:=by
  cases e with
  |add|sub|mul|and|or|xor|andNot=>
   obtain rfl:c=k:=by simpa [PW]using h
   exact⟨_,λw=>by simp[eqGuard,Go.binOp,Op.intArith];rfl⟩
  |quo|rem=>
   obtain⟨rfl,hn⟩:c=k/\n≠0:=by simpa [PW]using h
   exact⟨_,λw=>by simp[eqGuard,Go.binOp,Op.intDiv,hn];rfl⟩
  |shl|shr=>
   have hn:0<=n:=by simpa [PW]using h
   exact⟨_,λw=>by simp[eqGuard,Go.binOp,Op.shift,Int.not_lt.2 hn];rfl⟩
  |_=>cases h
 obtain⟨r,hr⟩:=i;exact fE Y hy (λg w a b ha hb=>by cases (show a=_ from ha);cases (show b=_ from hb);exact⟨.int k r,hr w,rfl⟩) (l r)
def AD.vw{x y:Operand}{k z j a:Nat}{xs:List AV}{v:AV}(b:AD P A G K C (.tk::I) s ⟨H.B,T'⟩)(hT:ty? P T=some ti:=by exact rfl)(Y:ev? s x=some (.an k z n j a):=by exact rfl)(hy:ev? s y=some v:=by exact rfl)(hf:fits ti.agg ti.size v=true:=by exact rfl)(hTk:H.T[k]? =some (.Y xs):=by exact rfl)(hn:xs.length=n:=by exact rfl)
  (he:xs[j]? =some e0:=by exact rfl) (hpos:Nat.blt 0 ti.size=true:=by exact rfl) (hv:kT v (λvs=>kT e0 (λcs=>Ci a vs cs (Ma true)))=some v:=by exact rfl) (hT': j5 k (.Y (xs.set j v)) H.T some=some T':= by exact rfl):AD P A G K (⟨none, .store T x y,R,D,S,none⟩::C) I s H:=aX (agg:=true) (hT:=hT) (Y:=Y) (hy:=hy) (hf:=hf) (hTk:=hTk) (hn:=hn) (he:=he) (hpos:=hpos) (hv:=hv) (hT':= hT') b
theorem AD.ap{x y:Operand}{xs ys:List AV}{t:Tk}{k z:Nat}{te:TI}(a:AD P A G K C (.tk::I) ((d, .slice (xs++ys) (.own k z))::s) ⟨H.B,T'⟩)(hT:ty? P T=some ti:=by exact rfl)(hk:ti.kind = .slice:=by exact rfl)(hE:ty? P ti.elem=some te:=by exact rfl)(Y:ev? s x=some (.slice xs (.own k z)):=by exact rfl)(hz:Nat.beq te.size z=true:=by exact rfl)(hz0:Nat.blt 0 z=true:=by exact rfl)
  (hy:ev? s y=some (.slice ys t):=by exact rfl) (hTk:H.T[k]? =some (.len n):=by exact rfl) (hn:xs.length=n:=by first|exact List.length_map .. |exact rfl|simp) (hf:eQ te.agg te.size ys=true:=by first|exact rfl|exact iM (fun _=>rfl) _)
  (hb:(n+ys.length) * te.bytes<=140737488355328:=by first|(dsimp only[List.length_cons,List.length_nil]at *; omega)|(simp only[List.length_map]at *; omega)) (hb': n+ys.length<=4611686018427387904:=by first|(dsimp only[List.length_cons,List.length_nil]at *; omega)|(simp only[List.length_map]at *; omega)) (hT': j5 k (.len (n+ys.length)) H.T some=some T':= by exact rfl):
  AD P A G K (⟨some d, .call ⟨.builtin .append, #[x,y], #[T,T]⟩,R,D,S,none⟩::C) I s H:=bU (hT:=hT) (hk:=hk) (hE:=hE) (hz:=hz) (hz0:=hz0) (Y:=Y) (hy:=hy) (hTk:=hTk) (hf:=hf) (hb:=hb) (hb':= hb') (hT':= hT') hn a
end
end Go.Av
namespace Go.Proofs.YtdodieljpcfpcaaGreatDoor
open Go Go.Av Go.Proofs.Tryz
variable [AK]
section
variable {P:Program} {f:FuncId} {x y z:AV} {r:List AV} {α:Type} {E:α->AV} {Q:α->Prop}
instance {v:AH}[h:EC P f (v.C::r) E Q]:EC P f (.agg [.int .i64 v.kind, .int .i64 v.n, .str v.s, .slice v.lv .no, .slice v.mv .no]::r) E Q:=h
instance {v:Ae}[h:EC P f (v.C::r) E Q]:EC P f (.agg [.str v.name, .int .i64 v.ak, .int .i64 v.ay]::r) E Q:=h
instance (priority:=low){n:AF}{l m:Int}[h:EC P f ((Ae.mk n l m).C::r) E Q]:EC P f (.agg [.str n, .int .i64 l, .int .i64 m]::r) E Q:=h
instance {v:Sl}[h:EC P f (.slice (v.O.map Sl.C) .no::r) E Q]:EC P f (.slice v.sv .no::r) E Q:=Yl
instance {v:AH}[h:EC P f (x::v.C::r) E Q]:EC P f (x ::.agg [.int .i64 v.kind, .int .i64 v.n, .str v.s, .slice v.lv .no, .slice v.mv .no]::r) E Q:=h
instance {v:Ae}[h:EC P f (x::v.C::r) E Q]:EC P f (x ::.agg [.str v.name, .int .i64 v.ak, .int .i64 v.ay]::r) E Q:=h
instance (priority:=low){n:AF}{l m:Int}[h:EC P f (x::(Ae.mk n l m).C::r) E Q]:EC P f (x ::.agg [.str n, .int .i64 l, .int .i64 m]::r) E Q:=h
instance {v:AH}[h:EC P f (x::y::v.C::r) E Q]:EC P f (x::y ::.agg [.int .i64 v.kind, .int .i64 v.n, .str v.s, .slice v.lv .no, .slice v.mv .no]::r) E Q:=h
instance {v:Ae}[h:EC P f (x::y::v.C::r) E Q]:EC P f (x::y ::.agg [.str v.name, .int .i64 v.ak, .int .i64 v.ay]::r) E Q:=h
instance (priority:=low){n:AF}{l m:Int}[h:EC P f (x::y::(Ae.mk n l m).C::r) E Q]:EC P f (x::y ::.agg [.str n, .int .i64 l, .int .i64 m]::r) E Q:=h
instance {v:AH}[h:EC P f (x::y ::.slice (v.m.map AG.C) .no::r) E Q]:EC P f (x::y ::.slice v.mv .no::r) E Q:=by rw[v.bf];exact h
instance {v:Sl}[h:EC P f (x::y ::.slice (v.O.map Sl.C) .no::r) E Q]:EC P f (x::y ::.slice v.sv .no::r) E Q:=Yl
instance {v:AH}[h:EC P f (x::y::z::v.C::r) E Q]:EC P f (x::y::z ::.agg [.int .i64 v.kind, .int .i64 v.n, .str v.s, .slice v.lv .no, .slice v.mv .no]::r) E Q:=h
instance (priority:=low){n:AF}{l m:Int}[h:EC P f (x::y::z::(Ae.mk n l m).C::r) E Q]:EC P f (x::y::z ::.agg [.str n, .int .i64 l, .int .i64 m]::r) E Q:=h
end
instance:By Ag Ag.size:=⟨λx=>by first|exact x.au|(unfold Ag.size;omega)⟩
instance:By Ah Ah.size:=⟨λx=>by first|exact x.au|(unfold Ah.size;omega)⟩
instance:By AO AO.size:=⟨λx=>by first|exact x.au|(unfold AO.size;omega)⟩
instance:By AM AM.size:=⟨λx=>by first|exact x.au|(unfold AM.size;omega)⟩
instance:By Aj Aj.size:=⟨λx=>by first|exact x.au|(unfold Aj.size;omega)⟩
instance:By Af Af.size:=⟨λx=>by first|exact x.au|(unfold Af.size;omega)⟩
instance (x:AI)[Z x.size]:Z (aA Ag.size x.ah) := .of (b:=x.size) YX
instance (x:AI)[Z x.size]:Z (x.query.length) := .of (b:=x.size) YX
instance (x:AI)[Z x.size]:Z (x.ar.length) := .of (b:=x.size) YX
instance (x:Ag)[Z x.size]:Z (x.name.length) := .of (b:=x.size) WA
instance (x:Ag)[Z x.size]:Z (aA Ah.size x.fields) := .of (b:=x.size) WA
instance (x:Ag)[Z x.size]:Z (aA AO.size x.params) := .of (b:=x.size) WA
instance (x:Ag)[Z x.size]:Z (dA x.faces) := .of (b:=x.size) WA
instance (x:Ag)[Z x.size]:Z (dA x.aw) := .of (b:=x.size) WA
instance (x:Ah)[Z x.size]:Z (x.name.length) := .of (b:=x.size) X4
instance (x:Ah)[Z x.size]:Z (aA AO.size x.params) := .of (b:=x.size) X4
instance (x:Ah)[Z x.size]:Z (x.t.size) := .of (b:=x.size) X4
instance (x:Ah)[Z x.size]:Z (aA AM.size x.ao) := .of (b:=x.size) X4
instance (x:Ae)[Z x.size]:Z (x.name.length) := .of (b:=x.size) Xu
instance (x:AO)[Z x.size]:Z (x.name.length) := .of (b:=x.size) XZ
instance (x:AO)[Z x.size]:Z (x.t.size) := .of (b:=x.size) XZ
instance (x:AO)[Z x.size]:Z (x.d.size) := .of (b:=x.size) XZ
instance (x:AM)[Z x.size]:Z (x.name.length) := .of (b:=x.size) Xq
instance (x:AM)[Z x.size]:Z (aA AG.size x.args) := .of (b:=x.size) Xq
instance (x:AG)[Z x.size]:Z (x.name.length) := .of (b:=x.size) Xr
instance (x:AG)[Z x.size]:Z (x.v.size) := .of (b:=x.size) Xr
instance (x:Aj)[Z x.size]:Z (x.name.length) := .of (b:=x.size) WW
instance (x:Aj)[Z x.size]:Z (aA AO.size x.vars) := .of (b:=x.size) WW
instance (x:Aj)[Z x.size]:Z (aA AM.size x.ao) := .of (b:=x.size) WW
instance (x:Aj)[Z x.size]:Z (aA Sl.size x.O) := .of (b:=x.size) WW
instance (x:Af)[Z x.size]:Z (x.name.length) := .of (b:=x.size) Wy
instance (x:Af)[Z x.size]:Z (x.on.length) := .of (b:=x.size) Wy
instance (x:Af)[Z x.size]:Z (aA AM.size x.ao) := .of (b:=x.size) Wy
instance (x:Af)[Z x.size]:Z (aA Sl.size x.O) := .of (b:=x.size) Wy
instance (x:AR)[Z x.size]:Z (aA Aj.size x.ops) := .of (b:=x.size) X7
instance (x:AR)[Z x.size]:Z (aA Af.size x.ai) := .of (b:=x.size) X7
instance (x:AH)[Z x.size]:Z (x.s.length) := .of (b:=x.size) WU
instance (x:AH)[Z x.size]:Z (aA AG.size x.m) := .of (b:=x.size) WU
instance (x:Sl)[Z x.size]:Z (x.bn.length) := .of (b:=x.size) WU
instance (x:Sl)[Z x.size]:Z (x.name.length) := .of (b:=x.size) WU
instance (x:Sl)[Z x.size]:Z (x.on.length) := .of (b:=x.size) WU
instance (x:Sl)[Z x.size]:Z (aA AG.size x.args) := .of (b:=x.size) WU
instance (x:Sl)[Z x.size]:Z (aA AM.size x.ao) := .of (b:=x.size) WU
instance {t:Ae}{l m:Int}[h:Z t.size]:Z (Ae.mk t.name l m).size:=h
instance (l:List AF)(k:Nat)(h:k<l.length)[Z (dA l)]:Z (l[k]'h).length := .of (b:=dA l) (by
 have:=aN (size:=λs:AF=>s.length+1) (List.getElem_mem h)
 unfold dA;omega)
end Go.Proofs.YtdodieljpcfpcaaGreatDoor
namespace Go.Av
open Go Go.Proofs.YtdodieljpcfpcaaGreatDoor
variable [AK]
instance {α:Type}{L:List α}{E:α->AV}{x:α}:Ay (L.map E++[E x]) (L++[x]) E:=⟨Xb⟩
instance {α:Type}{L M:List α}{E:α->AV}:Ay (L.map E++M.map E) (L++M) E:=⟨by rw[List.map_append]⟩
class EG(P:Program)(f:FuncId)(cls:List AV){γ:outParam Type}(F:outParam (γ->AV))(z add lim:outParam Nat):Prop where
 cl:∀y,(F y).K=true
 ex:∀xs:List γ,xs.length+add<=lim->∃(ys:List γ) (cls': List AV),ys.length<=xs.length+add/\aB cls'= true/\(∀y,AA (cls++[y]) (cls'++ [y]))/\AQ P f (cls'++ [.slice (xs.map F) (.own 0 z)]) ⟨[],[.len xs.length]⟩ (λe σ1=>e = .ret (.slice (ys.map F) (.own 0 z))/\σ1=⟨[],[.len ys.length]⟩)
 nil:add<=lim->∃(ys:List γ) (cls': List AV),ys.length<=add/\aB cls'= true/\AA cls cls'/\ AQ P f (cls'++ [.slice [] .nil]) ⟨[],[]⟩ (λe σ1=>e = .ret (.slice (ys.map F) (.own 0 z))/\σ1=⟨[],[.len ys.length]⟩)
theorem aAW(cls:List AV)(a b:AV):Sub (cB 0 (cls++[b])) ((cls.length,b)::cB 0 (cls++[a])):=by
 refine Sub.of λt v d=> ?_
 have c:∀(l:List AV) (k t:Nat) (v:AV),(t,v)∈cB k l->k<=t/\l[t-k]? =some v:=by
  intro l;induction l with
  |nil=>intro k t v h;simp[cB]at h
  |cons x l E=>
   intro k t v h;simp only[cB,List.mem_cons,Prod.mk.injEq]at h;rcases h with⟨rfl,rfl⟩|h
   ·simp
   ·obtain⟨h1,h2⟩:=E _ _ _ h;refine⟨om, ?_⟩;rw[show t-k=(t-(k+1))+1 by omega];simpa using h2
 obtain⟨_,h2⟩:=c _ _ _ _ d;rw[Nat.sub_zero]at h2;unfold lk;cases e:Nat.beq cls.length t with
 |true=>have:=Nat.eq_of_beq_eq_true e;subst this;simpa using h2
 |false=>
  have f:cls.length≠t:=λh=>by rw[h,Nat.beq_refl]at e;cases e
  rw[cond_false,kQ,if_neg om,Nat.sub_zero];by_cases hlt:t<cls.length
  ·rw[List.getElem?_append_left hlt]at h2 ⊢; rw[h2];rfl
  ·rw[List.getElem?_append_right om]at h2;have:t-cls.length≠0:=om
   rw[List.getElem?_eq_none Wh]at h2;cases h2
section
variable {P:Program} [Lay P] {N:Nat} {K:AX->AE->St->Prop} {s:AE} {H:St} {A:Array Oper} {G:Bool} {C:List Oper} {I:List Ak} {d:Option Tmp} {R:TypeId} {D:String} {S:Array Edge}
def Sg{f:FuncId}{cls a:List AV}{γ:Type}{F:γ->AV}{xs:List γ}{z j add lim:Nat}(k:∀ys:List γ,ys.length<=n+add->AD P A G K C (.all::I) (iJ d (.slice (ys.map F) (.own j z)) s) ⟨H.B,H.T.set j (.len ys.length)⟩)(ha:j7 s args.toList some=some (cls++[.slice a (.own j z)]))(b:Ay a xs F)(h:EG P f cls F z add lim)(hj:H.T[j]? =some (.len n))(hn:xs.length=n)(hb:n+add<=lim):
  AD P A G K (⟨d, .call ⟨.value (.func f),args,p⟩,R,D,S,none⟩::C) I s H:=by obtain⟨ys,cls', h1,h2,h3,h4⟩:=h.ex xs om;rw[b.eq]at ha;subst hn;have hl:j<H.T.length:=(List.getElem?_eq_some_iff.1 hj).1;exact aC2 j ha h4 hj (bF h.cl xs) (bF h.cl ys) h2 (h3 _) (Se hl) (k ys h1)
def aAX{f:FuncId}{cls:List AV}{γ:Type}{F:γ->AV}{z add lim:Nat}{B:List Ob}(k:∀ys:List γ,ys.length<=add->AD P A G K C (.all::I) (iJ d (.slice (ys.map F) (.own 0 z)) s) ⟨B,[.len ys.length]⟩)(ha:j7 s args.toList some=some (cls++[.slice [] .nil]))(h:EG P f cls F z add lim)(hσ:H=⟨B,[]⟩)(hb:add<=lim):
  AD P A G K (⟨d, .call ⟨.value (.func f),args,p⟩,R,D,S,none⟩::C) I s H:=by
 obtain⟨ys,cls', h1,h2,h3,h4⟩:=h.nil hb;have b:∀xs:List AV,aB (xs++[.slice [] .nil])=aB xs:=λxs=>by
  induction xs with
  |nil=>rfl
  |cons x xs E=>rw[List.cons_append,aB,aB,E]
 have c:AA (cls++[.slice [] .nil]) (cls'++ [.slice [] .nil]):=λg w vs hv=>by
  have e:∀(cs:List AV) (vs:List Value) (y:AV),AL g w (cs++[y]) vs->∃us u,vs=us++[u]/\AL g w cs us/\Ab g w y u:=by
   intro cs;induction cs with
   |nil=>intro vs y h;obtain⟨v,C,rfl,h1,h2⟩:=h;exact⟨[],v,by rw[show C=[] from h2];rfl,rfl,h1⟩
   |cons a cs E=>intro vs y h;obtain⟨v,C,rfl,h1,h2⟩:=h;obtain⟨us,u,rfl,h3,h4⟩:=E _ _ h2;exact⟨v::us,u,rfl,⟨v,us,rfl,h1,h3⟩,h4⟩
  obtain⟨us,u,rfl,i,j⟩:=e _ _ _ hv;exact(h3 g w us i).append ⟨u,[],rfl,j,rfl⟩
 exact jW hσ ha h4 (by rw[b,h2]) c (by rw[AV.aa,aC _ _ _ (bF h.cl ys)];rfl) rfl (k ys h1)
def AD.cz{f:FuncId}{x:AV}{γ:Type}{F:γ->AV}{z add lim:Nat}{B:List Ob}(k:∀ys:List γ,ys.length<=add->AD P A G K C (.all::I) (iJ d (.slice (ys.map F) (.own 0 z)) s) ⟨B,[.len ys.length]⟩)(ha:j7 s args.toList some=some [x, .slice [] .nil]:=by exact rfl)(h:EG P f [x] F z add lim:=by infer_instance)(hσ:H=⟨B,[]⟩:=by exact rfl)(hb:add<=lim:=by omega):
  AD P A G K (⟨d, .call ⟨.value (.func f),args,p⟩,R,D,S,none⟩::C) I s H:=aAX (cls:=[x]) k ha h hσ hb
def AD.de{f:FuncId}{x:AV}{γ:Type}{F:γ->AV}{xs:List γ}{z j add lim:Nat}(k:∀ys:List γ,ys.length<=n+add->AD P A G K C (.all::I) (iJ d (.slice (ys.map F) (.own j z)) s) ⟨H.B,H.T.set j (.len ys.length)⟩)(ha:j7 s args.toList some=some [x, .slice a (.own j z)]:=by exact rfl)(b:Ay a xs F:=by infer_instance)(h:EG P f [x] F z add lim:=by infer_instance)(hj:H.T[j]? =some (.len n):=by exact rfl)(hn:xs.length=n:=by first|exact rfl|simp)(hb:n+add<=lim:=by first|((try dsimp only at *);omega)|((try simp only[List.length_append,List.length_cons,List.length_nil]at *);omega)):
  AD P A G K (⟨d, .call ⟨.value (.func f),args,p⟩,R,D,S,none⟩::C) I s H:=Sg (cls:=[x]) k ha b h hj hn hb
def AD.da{f:FuncId}{x y w:AV}{γ:Type}{F:γ->AV}{xs:List γ}{z j add lim:Nat}(k:∀ys:List γ,ys.length<=n+add->AD P A G K C (.all::I) (iJ d (.slice (ys.map F) (.own j z)) s) ⟨H.B,H.T.set j (.len ys.length)⟩)(ha:j7 s args.toList some=some [x,y,w, .slice a (.own j z)]:=by exact rfl)(b:Ay a xs F:=by infer_instance)(h:EG P f [x,y,w] F z add lim:=by infer_instance)(hj:H.T[j]? =some (.len n):=by exact rfl)(hn:xs.length=n:=by first|exact rfl|simp)(hb:n+add<=lim:=by first|((try dsimp only at *);omega)|((try simp only[List.length_append,List.length_cons,List.length_nil]at *);omega)):
  AD P A G K (⟨d, .call ⟨.value (.func f),args,p⟩,R,D,S,none⟩::C) I s H:=Sg (cls:=[x,y,w]) k ha b h hj hn hb
theorem eg{f:FuncId}{fn:Func}{cls:List AV}{c:Code}{γ:Type}{F:γ->AV}{z add lim:Nat}(t:Nat)(hf:P.funcs[f]? =some fn)(h:∀xs:List γ,xs.length+add<=lim->EX P N [] c (fin [t] (λe σ'=> ∃ys:List γ,ys.length<=xs.length+add/\e = .ret (.slice (ys.map F) (.own 0 z))/\(⟨σ'.B.take 0,σ'.T.take 1⟩:St)=⟨[],[.len ys.length]⟩)) (cB 0 (cls++[.slice (xs.map F) (.own 0 z)])) ⟨[],[.len xs.length]⟩)
  (hb:fn.body=some c:=by exact rfl) (hN:fn.ntmps=N:=by exact rfl) (j:(fn.name == "runtime.NumGoroutine")=false:=by exact rfl) (i:∀x,Nat.ble (cls++[x]).length N=true:=by intro x;exact rfl) (p:fn.results=([t].map ResultVar.tmp).toArray:=by exact rfl)
  (hF:∀y,(F y).K=true:=by intro y;first|exact rfl|simp[AV.K,aB,As.K]) (ha:aB cls=true:=by first|exact rfl|simp[-List.map_map,AV.K,aB,aR,b9,aT,b8,gF,dS,aZ,dT,AH.K,Ah.K,Ag.K,Af.K,AI.K,AR.K,Ae.K,As.K,Sl.K,AO.K,AM.K,Aj.K]):EG P f cls F z add lim:=by
 have u:∀ys:List γ,(AV.slice (ys.map F) (.own 0 z)).aa 0 1=true:=λys=>by rw[AV.aa,aC _ _ _ (bF hF ys)];rfl
 have q:∀xs:List γ,xs.length+add<=lim->∃ys:List γ,ys.length<=xs.length+add/\AB P N [] c (fin [t] λe d=>∃v nB mT,e = .ret v/\nB=0/\mT=1/\v.aa nB mT=true/\aQ nB mT (d.B.take nB)=true/\aL nB mT (d.T.take mT)=true/\(Av.ret v = .ret (.slice (ys.map F) (.own 0 z))/\(⟨d.B.take nB,d.T.take mT⟩:St)=⟨[],[.len ys.length]⟩)) (cB 0 (cls++[.slice (xs.map F) (.own 0 z)])) ⟨[],[.len xs.length]⟩:=λxs Y=>by
  by_cases hr:BC N [] (cB 0 (cls++[.slice (xs.map F) (.own 0 z)])) ⟨[],[.len xs.length]⟩
  ·obtain⟨e,s', σ', hk,O⟩:=h xs Y hr;have m:∀ys:List γ,(⟨σ'.B.take 0,σ'.T.take 1⟩:St)=⟨[],[.len ys.length]⟩->∀v,Av.ret v = .ret (.slice (ys.map F) (.own 0 z))->∃v1 nB mT,Av.ret v = .ret v1/\nB=0/\mT=1/\v1.aa nB mT=true/\aQ nB mT (σ'.B.take nB)=true/\aL nB mT (σ'.T.take mT)=true/\(Av.ret v1 = .ret (.slice (ys.map F) (.own 0 z))/\(⟨σ'.B.take nB,σ'.T.take mT⟩:St)=⟨[],[.len ys.length]⟩):=λys hs v hv=>by cases hv;simp only[St.mk.injEq]at hs;exact⟨_,0,1,rfl,rfl,rfl,u ys,by rw[hs.1];rfl,by rw[hs.2];rfl,rfl,by rw[hs.1,hs.2]⟩
   have go:∀ {o},fin [t] o e s' σ'-> AB P N [] c (fin [t] o) (cB 0 (cls++[.slice (xs.map F) (.own 0 z)])) ⟨[],[.len xs.length]⟩:=λhp=>O.mono λe1 s1 d ⟨a,b,c⟩=>by subst a b c;exact hp
   cases e with
   |normal=>obtain⟨ys,h1,h2,h3⟩:=hk;exact⟨ys,h1,go (m ys h3 _ h2)⟩
   |ret=>obtain⟨ys,h1,h2,h3⟩:=hk;exact⟨ys,h1,go (m ys h3 _ h2)⟩
   |pan x=>obtain⟨ys,h1,h2,h3⟩:=hk;cases h2
   |exit id=>exact hk.elim
   |goto l=>exact hk.elim
  ·exact⟨xs,om,λg w ac X hs h1 h2=>absurd ⟨g,w,ac,X,hs,h1,h2⟩ hr⟩
 refine⟨hF,λxs Y=> ?_,λY=> ?_⟩
 ·obtain⟨ys,h1,h2⟩:=q xs Y;refine⟨ys,cls,h1,ha,λy=>aD _,kV (AQ.enter [t] hf hb hN j (i _) p Wa (h2.mono λe1 s1 d h=> ?_))⟩;cases e1<;>first|exact h|(obtain⟨v,nB,mT,e,rfl,rfl,h⟩:=h;exact⟨v,0,1,e,Nat.le_refl _,Nat.le_refl _,h⟩)
 ·obtain⟨ys,h1,h2⟩:=q [] WH;refine⟨ys,cls,by simpa using h1,ha,aD _,kV (AQ.enter [t] hf hb hN j (i _) p Wa (eJ (t := .nil) (xs:=[]) (k:=0) (n:=0) cls.length false z ?_ ((h2.mono λe1 s1 d h=> ?_).weaken (aAW cls _ _))))⟩
  ·have:=kQ (cls++[.slice [] .nil]) 0 cls.length;have e:∀(l:List AV) (k:Nat),lk? (cB k (l++[.slice [] .nil])) (k+l.length)=some (.slice [] .nil):=by
    intro l;induction l with
    |nil=>intro k;simp[cB,lk?]
    |cons x l E=>
     intro k;have h:=E (k+1);simp only[List.cons_append,cB,lk?, List.length_cons];have r:Nat.beq k (k+(l.length+1))=false:=by
      cases hh:Nat.beq k (k+(l.length+1)) with
      |false=>rfl
      |true=>have:=Nat.eq_of_beq_eq_true hh;omega
     rw[r];rw[show k+(l.length+1)=k+1+l.length by omega];exact h
   simpa using e cls 0
  ·cases e1<;>first|exact h|(obtain⟨v,nB,mT,e,rfl,rfl,h⟩:=h;exact⟨v,0,1,e,Nat.le_refl _,zero_le _,h⟩)
theorem ge{γ:Type}{F:γ->AV}{z B t:Nat}{s:AE}{H:St}{ys:List γ}(h0:lk s t = .slice a (.own 0 z):=by exact rfl)(c:Ay a ys F:=by infer_instance)(hσ:(⟨H.B.take 0,H.T.take 1⟩:St)=⟨[],[.len ys.length]⟩:=by first|exact rfl|(simp only[List.length_append,List.length_map];exact rfl))(b:ys.length<=B:=by first|((try dsimp only at *);omega)|((try simp only[List.length_append,List.length_cons,List.length_nil]at *);omega)|simp_all|fail):
  ∃ys:List γ,ys.length<=B/\Av.ret (gK s [t]) = .ret (.slice (ys.map F) (.own 0 z))/\(⟨H.B.take 0,H.T.take 1⟩:St)=⟨[],[.len ys.length]⟩:=⟨ys,b,by rw[show gK s [t]=lk s t from rfl,h0,c.eq],hσ⟩
def AD.mx{d:Tmp}{x y:Operand}{m n:Int}(k:∀r:Int,AD P A G K C (.pure::I) ((d, .int .i64 r)::s) H)(Y:ev? s x=some (.int .i64 m):=by exact rfl)(hy:ev? s y=some (.int .i64 n):=by exact rfl):AD P A G K (⟨some d, .call ⟨.builtin .max, #[x,y],p⟩,R,D,S,none⟩::C) I s H:=
 bT rfl (eZ λg w a b=>by
  have h1:a.eval x = .int .i64 m:=op1 Y Wj b
  have h2:a.eval y = .int .i64 n:=op1 hy Wj b
  exact⟨.int .i64 (if n>m then n else m),by simp[execOp,resolve,invoke,builtin,Builtin.max_,Builtin.max2,h1,h2,Result.andThen],rfl⟩) (k _)
end
section
variable {P:Program} {f:FuncId} {x y w:AV} {r:List AV} {γ:Type} {F:γ->AV} {z add lim:Nat}
instance {v:AH}[h:EG P f (v.C::r) F z add lim]:EG P f (.agg [.int .i64 v.kind, .int .i64 v.n, .str v.s, .slice v.lv .no, .slice v.mv .no]::r) F z add lim:=h
instance {v:Sl}[h:EG P f (.slice (v.O.map Sl.C) .no::r) F z add lim]:EG P f (.slice v.sv .no::r) F z add lim:=Yl
instance {v:Sl}[h:EG P f (x::y ::.slice (v.O.map Sl.C) .no::r) F z add lim]:EG P f (x::y ::.slice v.sv .no::r) F z add lim:=Yl
end
theorem cl{p:Prop}(h:p:=by first|exact nr|exact mb|exact mg|exact gr|exact ge|exact fe|exact fr|exact fe (a:=(_,_))|exact fr (a:=(_,_))|exact fe (a:=(default,_))|exact fr (a:=(default,_))|exact fe (a:=default)|exact fr (a:=default)|(exfalso;first|omega|grind)|fail):p:=h
section
variable {P:Program} [Lay P] {N:Nat} {D:List Deferred} {c:Code} {K:AX->AE->St->Prop} {s:AE} {H:St} {A:Array Oper} {G:Bool} {l:List Oper} {I:List Ak} {Q Q1 Q2:Prop}
theorem EX.v(q:Q)(h:BY Q->EX P N D c K s H:=by intro q;refine .s1 ?_;exact q.val):EX P N D c K s H:=h ⟨q⟩
theorem AD.v(q:Q)(h:BY Q->AD P A G K l I s H:=by intro q;(first|refine .br ?_|refine .s1 ?_|refine .ce ?_|refine .iy ?_|refine .iz ?_|refine .iY ?_|refine .iZ ?_|refine .sz ?_|refine .ap ?_|refine .io ?_|refine .cv ?_|refine .ng ?_|refine .vw ?_|refine .vs ?_|refine .mx ?_|refine .de ?_|refine .cg2 ?_|refine .da ?_|refine .cz ?_|refine .cn2 ?_|refine .cn3 ?_|fail);exact q.val):AD P A G K l I s H:=h ⟨q⟩
theorem EX.z(a:Q1)(b:Q2)(h:BY Q1->BY Q2->EX P N D c K s H:=by intro a b;first|exact .q a.val b.val|exact .F a.val b.val|exact .G a.val b.val|exact .U a.val b.val|exact .S a.val b.val|fail):EX P N D c K s H:=h ⟨a⟩ ⟨b⟩
theorem AD.z(a:Q1)(b:Q2)(h:BY Q1->BY Q2->AD P A G K l I s H:=by intro a b;exact .q a.val b.val):AD P A G K l I s H:=h ⟨a⟩ ⟨b⟩
theorem EX.j(h:EX P N D c K s H:=by (repeat' first|intro _|refine .mA ?_ ?_|refine .v ?_|refine .z ?_ ?_|exact cl|fail)):EX P N D c K s H:=h
theorem EX.w(h:EX P N D c K s H:=by (repeat' first|intro _|refine .v ?_|refine .z ?_ ?_|exact cl|fail)):EX P N D c K s H:=h
end
end Go.Av
namespace Go.Proofs.YtdodieljpcfpcaaGreatDoor
open Go Go.Av Go.Proofs.Tryz
attribute [local irreducible] AB AD AN AQ Av.AS AZ EX Int.le Int.lt Int.decLe Int.decLt Int.decEq
instance (a:AF)[h:Z a.length]:EC prog 137 [.str a] (λ_:Unit => .bool (lS a)) λ_=>True:=⟨(),_,trivial,aD _,Cs a Zq⟩
instance (a:AF)[h:Z a.length]:EC prog 235 [.str a] (λ_:Unit => .bool (fT a)) λ_=>True:=⟨(),_,trivial,aD _,Ia a Zq⟩
instance (a:Ae)[h:Z a.size]:EC prog 140 [a.C] (λ_:Unit => .bool (cC a)) λ_=>True:=⟨(),_,trivial,aD _,kX a Wx⟩
instance (a:Ae)[h:Z a.size]:EC prog 95 [a.C] (λ_:Unit => .bool (isT a)) λ_=>True:=⟨(),_,trivial,aD _,rIs a Wx⟩
instance (a:Ae)[h:Z a.size]:EC prog 171 [a.C] (λ_:Unit => .tup [(fZ a).1.C, .bool (fZ a).2]) λ_=>True:=⟨(),_,trivial,aD _,KO a Wx⟩
instance (a:AF)[h:Z a.length]:EC prog 233 [.str a] (λ_:Unit => .int .i64 (m6 a)) λ_=>True:=⟨(),_,trivial,aD _,Cv a Zq⟩
instance (a:AF)[h:Z a.length]:EC prog 234 [.str a] (λ_:Unit => .tup [.undef, .bool (Cx a)]) λ_=>True:=⟨(),_,trivial,aD _,Gp a h.le⟩
instance (a:List AF)(b:AF):EB 9 [.slice (a.map AV.str) .no, .str b]:=by
 refine en [4] func9 ?_
 exact .w
instance (a:AF)(b:List AG):EC prog 42 [.str a, .slice (b.map AG.C) .no] (λx:AH×Bool => .tup [x.1.C, .bool x.2]) λ_=>True:=by
 refine enR [.cell 4 43, .tmp 5] func42 ?_
 exact .w
theorem MW:∀(n:Nat) (v:AH),v.size<=n->n<=1048576->EB 158 [v.C]:=λn=>by
 induction n using Nat.strongRecOn with
 |ind n E=>
  intro v hv hn
  have hz:Z v.size:=⟨om⟩
  have a:∀k (h:k<v.l.length),EB 158 [(v.l[k]'h).C]:=λk h=>E _ W1 _ (Nat.le_refl _) W1
  have b:∀k (h:k<v.m.length),EB 158 [(v.m[k]'h).v.C]:=λk h=>E _ W0 _ (Nat.le_refl _) W0
  refine en [2] func158 ?_
  exact .j
instance (v:AH)[h:Z v.size]:EB 158 [v.C]:=MW _ v (Nat.le_refl _) h.le
theorem aAY:∀(n:Nat) (v:AH),v.size<=n->n<=1048576->EC prog 269 [v.C] (λx:Int => .int .i64 x) λ_=>True:=λn=>by
 induction n using Nat.strongRecOn with
 |ind n E=>
  intro v hv hn
  have hz:Z v.size:=⟨om⟩
  have a:∀k (h:k<v.l.length),EC prog 269 [(v.l[k]'h).C] (λx:Int => .int .i64 x) λ_=>True:=λk h=>E _ W1 _ (Nat.le_refl _) W1
  have b:∀k (h:k<v.m.length),EC prog 269 [(v.m[k]'h).v.C] (λx:Int => .int .i64 x) λ_=>True:=λk h=>E _ W0 _ (Nat.le_refl _) W0
  refine en [2] func269 ?_
  repeat' first|intro _|refine .MF 3 (AV.int .i64) (λ_ _=>True) ?_ ?_|refine .v ?_|refine .z ?_ ?_|exact cl|fail
instance (v:AH)[h:Z v.size]:EC prog 269 [v.C] (λx:Int => .int .i64 x) λ_=>True:=aAY _ v (Nat.le_refl _) h.le
theorem aAZ:∀(n:Nat) (v:AH),v.size<=n->n<=1048576->EB 307 [v.C]:=λn=>by
 induction n using Nat.strongRecOn with
 |ind n E=>
  intro v hv hn
  have hz:Z v.size:=⟨om⟩
  have a:∀k (h:k<v.l.length),EB 307 [(v.l[k]'h).C]:=λk h=>E _ W1 _ (Nat.le_refl _) W1
  have b:∀k (h:k<v.m.length),EB 307 [(v.m[k]'h).v.C]:=λk h=>E _ W0 _ (Nat.le_refl _) W0
  refine en [2] func307 ?_
  exact .j
instance (v:AH)[h:Z v.size]:EB 307 [v.C]:=aAZ _ v (Nat.le_refl _) h.le
instance (a:AH)[Z a.size]:EB 268 [a.C]:=by
 refine en [2] func268 ?_
 exact .w
theorem aC6:∀(n:Nat) (v:AH),v.size<=n->n<=1048576->EG prog 308 [v.C] AV.str 1 v.size 4398046511104:=λn=>by
 induction n using Nat.strongRecOn with
 |ind n E=>
  intro v hv hn
  have b:∀k (h:k<v.l.length),EG prog 308 [(v.l[k]'h).C] AV.str 1 (v.l[k]'h).size 4398046511104:=λk h=>E _ W1 _ (Nat.le_refl _) W1
  have c:∀k (h:k<v.m.length),EG prog 308 [(v.m[k]'h).v.C] AV.str 1 (v.m[k]'h).v.size 4398046511104:=λk h=>E _ W0 _ (Nat.le_refl _) W0
  have e1:=v.ax
  have a:=EZ (f:=λx:AG=>x.v.size) (g:=AG.size) (λx=>Xr) v.m
  refine eg 4 func308 λxs Y=> ?_
  repeat' first|intro _|refine .Rw (L:=v.l) 1 AV.str (xs.length+1) AH.size ?_ ?_|refine .Rw (L:=v.m) 1 AV.str (xs.length+1+aA AH.size v.l) (λx=>x.v.size) ?_ ?_|refine .v ?_|refine .z ?_ ?_|exact cl|fail
instance (v:AH)[h:Z v.size]:EG prog 308 [v.C] AV.str 1 v.size 4398046511104:=aC6 _ v (Nat.le_refl _) h.le
instance (v:AH)[h:Z v.size]:EC prog 270 [v.C] (λx:List AF => .slice (x.map AV.str) .no) (λx=>x.length<=v.size):=by
 have:=h.le
 refine en [2] func270 ?_
 exact .w
instance (a b:AH):EC prog 213 [a.C,b.C] (λ_:Unit => .bool (rY a b)) λ_=>True:=⟨(),_,trivial,aD _,OJ a b⟩
instance (a:AH):EC prog 213 [a.C, .agg [.int .i64 0, .int .i64 0, .str [], .slice [] .nil, .slice [] .nil]] (λ_:Unit => .bool (rY a bO)) λ_=>True:=
 EC.a6 (ws:=[a.C,bO.C]) inferInstance (AA.cons (aG _) (AA.cons (AC.agg (AA.cons (aG _) (AA.cons (aG _) (AA.cons (aG _) (AA.cons (AC.no (aD _)) (AA.cons (AC.no (aD _)) (aD _))))))) (aD _)))
instance (a:List AF)[Z (dA a)]:EB 324 [.slice (a.map AV.str) .no]:=by
 refine en [2] func324 ?_
 exact .j
instance (a:AH)[Z a.size](b:Int)(c:Bool):EB 212 [a.C, .int .i64 b, .bool c]:=by
 refine en [6] func212 ?_
 exact .j
instance (a:Bool)(b:AH)[Z b.size]:EB 141 [.bool a,b.C]:=by
 refine en [4] func141 ?_
 exact .j
instance (a:List AO)[Z (aA AO.size a)]:EB 326 [.slice (a.map AO.C) .no]:=by
 refine en [2] func326 ?_
 exact .j
instance (a:List AG)[Z (aA AG.size a)](b:Int)(c:Bool):EB 210 [.slice (a.map AG.C) .no, .int .i64 b, .bool c]:=by
 refine en [6] func210 ?_
 exact .j
instance (a:List AM)[Z (aA AM.size a)](b:Int)(c:Bool):EB 138 [.slice (a.map AM.C) .no, .int .i64 b, .bool c]:=by
 refine en [6] func138 ?_
 exact .j
instance (a:List Ah)[Z (aA Ah.size a)]:EB 325 [.slice (a.map Ah.C) .no]:=by
 refine en [2] func325 ?_
 exact .j
instance (a:Ag)[Z a.size]:EB 304 [a.C]:=by
 refine en [2] func304 ?_
 exact .j
instance (a:AI)[Z a.size]:EB 258 [a.C]:=by
 refine en [2] func258 ?_
 exact .j
end Go.Proofs.YtdodieljpcfpcaaGreatDoor
