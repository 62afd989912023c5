/- Joined texts. -/
import Derived.Calls
import Derived.Orders
import Derived.WalkKit
import Derived.LoopN
import Derived.Scope
set_option linter.all false
open List (all_eq_true getElem?_take_of_lt mem_range)
open Nat (le_of_ble_eq_true le_refl le_trans lt_succ_self zero_le)
open Bool (and_eq_true not_eq_true')
open Option (getD_some)
open Go
variable{α:Type}{a:Act}{tmps:Array Value}{b:Bool}{c y:Code}{Q:Exit->Act->World->Prop}{n m:Nat}{o:Oper}{v:Value}{w0 f j:World}
namespace Go.Av
theorem Z0{p:Prop}(h:p:=by repeat' first|exact rfl|exact trivial|refine⟨?_,?_⟩):p:=h
theorem Wa{p:Prop}(h:p:=by simp):p:=h
theorem Wb{p:Prop}(h:p:=by kernel_rfl):p:=h
theorem Wc{p:Prop}(h:p:=by decide):p:=h
def Wd{p:Prop}(h:p:=by simp[Op.operands]):p:=h
def We{p:Prop}(h:p:=by rw[k];rfl):p:=h
def Wf{p:Prop}(h:p:=by simp[aQ,aL,Ob.aa,Tok.aa,aE,AV.aa]):p:=h
def Wg{p:Prop}(h:p:=by simp[aM,AV.aa]):p:=h
theorem Wh{p:Prop}(h:p:=by simp;omega):p:=h
def Wi{p:Prop}(h:p:=by rw[hk]at t3;cases dd<;>first|exact⟨_,rfl⟩|cases t3):p:=h
def Wj{p:Prop}(h:p:=by simp[Op.operands,Call.operands]):p:=h
def Wk{p:Prop}(h:p:=by simp[Value.cells,Value.oneCell']):p:=h
def Wl{p:Prop}(h:p:=by dsimp only;omega):p:=h
theorem Wm{p:Prop}(h:p:=by simp at h):p:=h
def Wn{p:Prop}(h:p:=by simpa [Op.operands,Call.operands]using .inr (by simpa using Y)):p:=h
def Wo{p:Prop}(h:p:=by simp[-List.map_take,aM,AV.aa,aF,AI.K]):p:=h
theorem Wp{p:Prop}(h:p:=by simpa using h):p:=h
def Wq{p:Prop}(h:p:=by rw[show gK s [t1,t2] = .tup [a,b] by unfold gK;simp only[List.map_cons,List.map_nil,g9 h1,g9 h2]];exact hw):p:=h
def Wr{p:Prop}(h:p:=by simp[aM,AV.aa,aE,dE,fG,Tbls.C,BH.C]):p:=h
def Wt{p:Prop}(h:p:=by rw[List.take_succ_eq_append_getElem h1,List.map_append];rfl):p:=h
theorem Wu{p:Prop}(h:p:=by cases h):p:=h
def Wv{p:Prop}(h:p:=by dsimp only[List.length_cons,List.length_nil];omega):p:=h
theorem Ww{p:Prop}(h:p:=by simp[aQ,aL,Ob.aa,Tok.aa,aE,AV.aa,fI]):p:=h
def Wx{p:Prop}(h:p:=by have:=(inferInstance:Z a.name.length).le;omega):p:=h
def Wy{p:Prop}(h:p:=by unfold Af.size;omega):p:=h
def Wz{p:Prop}(h:p:=by rw[b];rfl):p:=h
def W0{p:Prop}(h:p:=by have:=dP h;omega):p:=h
def W1{p:Prop}(h:p:=by have:=dI h;omega):p:=h
def W2{p:Prop}(h:p:=by rw[Bool.eq_iff_iff,beq_iff_eq,decide_eq_true_eq];omega):p:=h
theorem W3{p:Prop}(h:p:=by simpa [AV.aa]using h):p:=h
def W4{p:Prop}(h:p:=by simpa [AV.aa]using O):p:=h
theorem W5{p:Prop}(h:p:=by simp[a]):p:=h
def W6{p:Prop}(h:p:=by rw[List.length_drop];omega):p:=h
def W7{p:Prop}(h:p:=by rw[ht];omega):p:=h
theorem W8{p:Prop}(h:p:=by simp[O]):p:=h
theorem W9{p:Prop}(h:p:=by rw[c];rfl):p:=h
def WA{p:Prop}(h:p:=by unfold Ag.size;omega):p:=h
def WB{p:Prop}(h:p:=by rw[hk]at f;cases b<;>first|exact⟨_,rfl⟩|cases f):p:=h
theorem WC{p:Prop}(h:p:=by simp[aQ,aL,Ob.aa,Tok.aa]):p:=h
def WD{p:Prop}(h:p:=by rw[a];rfl):p:=h
def WE{p:Prop}(h:p:=by rw[AH.size,iO,iP];simp only[List.length_nil];omega):p:=h
def WF{p:Prop}(h:p:=by simp[eqGuard,Go.binOp,Op.intCmp]):p:=h
def WG{p:Prop}(h:p:=by simp only[Op.operands,List.toList_toArray];exact List.mem_map.2 ⟨p,hp,rfl⟩):p:=h
theorem WH{p:Prop}(h:p:=by simpa using Y):p:=h
def WI{p:Prop}(h:p:=by simp[-List.map_take,aM,AV.aa]):p:=h
def WJ{p:Prop}(h:p:=by have:=List.mem_range.1 X;omega):p:=h
def WK{p:Prop}(h:p:=by grind[List.take_succ_eq_append_getElem]):p:=h
def WL{p:Prop}(h:p:=by rw[List.take_succ_eq_append_getElem h1,List.map_append,List.map_append];rfl):p:=h
def WM{p:Prop}(h:p:=by simp[AV.K,cQ]):p:=h
def WN{p:Prop}(h:p:=by grind):p:=h
def WO{p:Prop}(h:p:=by simp[aQ,aL,Ob.aa,AV.aa,aE,dE,fI,mK,mL]):p:=h
def WP{p:Prop}(h:p:=by simp[aB,AV.K,Sl.b8]):p:=h
def WQ{p:Prop}(h:p:=by decide+kernel):p:=h
def WR{p:Prop}(h:p:=by rw[List.length_map];omega):p:=h
def WS{p:Prop}(h:p:=by rw[List.take_length,List.drop_zero,List.take_of_length_le (by simp)]):p:=h
def WT{p:Prop}(h:p:=by have:=aN (size:=AG.size) (List.getElem_mem h);have h2:v.m[k].size=v.m[k].name.length+2+v.m[k].v.size:=rfl;rw[v.ax];omega):p:=h
def WU{p:Prop}(h:p:=by rw[x.ax];omega):p:=h
def WV{p:Prop}(h:p:=by cases (show a=_ from ha);cases (show b=_ from hb);exact⟨.int k r,by simp[eqGuard,Go.binOp,Op.shift,Int.not_lt.2 hn,hr],rfl⟩):p:=h
def WW{p:Prop}(h:p:=by unfold Aj.size;omega):p:=h
def WX{p:Prop}(h:p:=by simp[aM,AV.aa,aE,aC _ _ _ a]):p:=h
theorem WY{p:Prop}(h:p:=by simpa using c):p:=h
def WZ{p:Prop}(h:p:=by simp[A0.C,AV.K,aB,dK]):p:=h
def Xa{p:Prop}(h:p:=by cases (show a=_ from ha);cases (show b=_ from hb);exact⟨.int k r,by simp[eqGuard,Go.binOp,Op.intDiv,hn,hr],rfl⟩):p:=h
def Xb{p:Prop}(h:p:=by rw[List.map_append];rfl):p:=h
def Xc{p:Prop}(h:p:=by simp[aM,AV.aa,Tbls.C,fG]):p:=h
def Xd{p:Prop}(h:p:=by simp[eqGuard,Go.binOp,Op.stringOp,vV]):p:=h
def Xe{p:Prop}(h:p:=by simp[aQ,aL,Ob.aa,AV.aa,aE,dE,fI]):p:=h
def Xf{p:Prop}(h:p:=by rw[List.take_succ_eq_append_getElem h,List.map_append];rfl):p:=h
theorem Xg{p:Prop}(h:p:=by simp[h1]):p:=h
theorem Xh{p:Prop}(h:p:=by simpa using X):p:=h
def Xi{p:Prop}(h:p:=by rw[iR];omega):p:=h
def Xj{p:Prop}(h:p:=by simpa using Array.mem_of_getElem? c):p:=h
def Xk{p:Prop}(h:p:=by rcases a with⟨rfl,rfl⟩|⟨⟨t,v,rfl⟩,rfl⟩<;>simp[Op.equalIn,run_underlying h,Result.andThen]):p:=h
def Xl{p:Prop}(h:p:=by simpa using hj):p:=h
theorem Xm{p:Prop}(h:p:=by cases hp):p:=h
theorem Xn{p:Prop}(h:p:=by simpa [AV.K]using h):p:=h
def Xo{p:Prop}(h:p:=by simp only[List.length_cons,List.length_nil];omega):p:=h
def Xp{p:Prop}(h:p:=by have:=v.au;omega):p:=h
def Xq{p:Prop}(h:p:=by unfold AM.size;omega):p:=h
def Xr{p:Prop}(h:p:=by unfold AG.size;omega):p:=h
def Xs{p:Prop}(h:p:=by simp[aQ,aL,Ob.aa,Tok.aa,aE,AV.aa,fI,pO,Cb]):p:=h
theorem Xt{p:Prop}(h:p:=by rw[hp,cP h1,if_neg (by simp[O])]):p:=h
def Xu{p:Prop}(h:p:=by unfold Ae.size;omega):p:=h
def Xv{p:Prop}(h:p:=by simp[aB,Tbls.K,BH.K]):p:=h
theorem Xw{p:Prop}(h:p:=by simp_all):p:=h
def Xx{p:Prop}(h:p:=by simp[aB,AV.K,aZ]):p:=h
def Xy{p:Prop}(h:p:=by rw[<-hh.bx i (by simpa [AV.aa]using O)];exact h1):p:=h
def Xz{p:Prop}(h:p:=by simp[aM,AV.aa,aF,eA]):p:=h
def X0{p:Prop}(h:p:=by simp[Ak.wT]):p:=h
def X1{p:Prop}(h:p:=by rw[hp,b,if_neg (by simp[O])]):p:=h
def X2{p:Prop}(h:p:=by rw[fC];omega):p:=h
def X3{p:Prop}(h:p:=by rw[Sm rfl .undef (by rw[AV.ae])];exact AA.cons (aG _) (AA.cons (De _ _ _ (Cc _)) (aD _))):p:=h
def X4{p:Prop}(h:p:=by unfold Ah.size;omega):p:=h
def X5{p:Prop}(h:p:=by rw[kF];exact Nat.le_succ _):p:=h
def X6{p:Prop}(h:p:=by rw[List.length_map,List.length_take];omega):p:=h
def X7{p:Prop}(h:p:=by unfold AR.size;omega):p:=h
theorem X8{p:Prop}(h:p:=by simpa using i):p:=h
def X9{p:Prop}(h:p:=by rw[h0];rfl):p:=h
theorem XA{p:Prop}(h:p:=by rw[e];exact a):p:=h
def XB{p:Prop}(h:p:=by unfold xG;dsimp only;omega):p:=h
def XC{p:Prop}(h:p:=by simpa using hl.length):p:=h
theorem XD{p:Prop}(h:p:=by simp[h]):p:=h
theorem XE{p:Prop}(h:p:=by simp[Value.oneCell']):p:=h
def XF{p:Prop}(h:p:=by simp[ByteArray.size]):p:=h
def XG{p:Prop}(h:p:=by simp[AV.K,aB,AI.K,b9,aT]):p:=h
def XH{p:Prop}(h:p:=by unfold iA;omega):p:=h
def XI{p:Prop}(h:p:=by simp at X):p:=h
def XJ{p:Prop}(h:p:=by simp[Program.cellsOf,hi']):p:=h
def XK{p:Prop}(h:p:=by simp[AV.K,aB,aT]):p:=h
def XL{p:Prop}(h:p:=by rw[hr,IntWalk.i64_in r hb];exact a):p:=h
def XM{p:Prop}(h:p:=by rw[List.take_length,List.drop_zero]):p:=h
def XN{p:Prop}(h:p:=by have:=Nat.le_of_ble_eq_true hn;omega):p:=h
def XO{p:Prop}(h:p:=by rw[hv.n,hn]):p:=h
def XP{p:Prop}(h:p:=by simp only[wG,List.length_append,List.length_cons,List.length_nil];omega):p:=h
def XQ{p:Prop}(h:p:=by simp[aB,AV.K,aZ,AI.K]):p:=h
def XR{p:Prop}(h:p:=by simp[AV.K,aB,Ah.K,aT]):p:=h
theorem XS{p:Prop}(h:p:=by simpa using f):p:=h
def XT{p:Prop}(h:p:=by simp[hk]):p:=h
def XU{p:Prop}(h:p:=by simp[eqGuard,Go.binOp,Op.intArith]):p:=h
theorem XV{p:Prop}(h:p:=by simpa using l):p:=h
def XW{p:Prop}(h:p:=by simp[aB,Tbls.K,AV.K]):p:=h
theorem XX{p:Prop}(h:p:=by rw[hp,pK h1,if_neg (by simp[O])]):p:=h
def XY{p:Prop}(h:p:=by simp[aM,AV.aa,gL,Tbls.C,fG]):p:=h
def XZ{p:Prop}(h:p:=by unfold AO.size;omega):p:=h
def Ya{p:Prop}(h:p:=by rw[List.length_append,List.length_cons,List.length_nil];omega):p:=h
def Yb{p:Prop}(h:p:=by simp[aE,AV.aa]):p:=h
def Yc{p:Prop}(h:p:=by rw[List.take_succ_eq_append_getElem h1,List.any_append,hj];simp):p:=h
theorem Yd{p:Prop}(h:p:=by simpa using hlt):p:=h
theorem Ye{p:Prop}(h:p:=by show (eF (st.R++[[]])).length<=_;rw[tW];exact Nat.zero_le _):p:=h
def Yf{p:Prop}(h:p:=by simp at X;omega):p:=h
def Yg{p:Prop}(h:p:=by rw[hp,d,if_neg (by simp[O])]):p:=h
def Yh{p:Prop}(h:p:=by rw[hp,a,if_neg (by simp[O])]):p:=h
def Yi{p:Prop}(h:p:=by have h1:=aN (size:=Sl.size) Y;have h2:=x.ax;omega):p:=h
def Yj{p:Prop}(h:p:=by have:=hT.a7.af t ht;omega):p:=h
def Yk{p:Prop}(h:p:=by simp[flat]):p:=h
def Yl{p:Prop}(h:p:=by rw[v.bb];exact h):p:=h
theorem Ym{p:Prop}(h:p:=by simpa using q):p:=h
theorem Yn{p:Prop}(h:p:=by simpa [iH]using O):p:=h
theorem Yo{p:Prop}(h:p:=by simp[Y]):p:=h
def Yp{p:Prop}(h:p:=by rw[hk]at i;cases c<;>first|exact⟨_,rfl⟩|cases i):p:=h
def Yq{p:Prop}(h:p:=by rw[b,List.length_append];rfl):p:=h
def Yr{p:Prop}(h:p:=by rw[Nd.ca];rfl):p:=h
theorem Yt{p:Prop}(h:p:=by rw[List.length_append];omega):p:=h
def Yu{p:Prop}(h:p:=by simp only[bO,AH.ok,l6,l9,and_true];exact⟨rfl,rfl⟩):p:=h
theorem Yv{p:Prop}(h:p:=by simpa using e):p:=h
def Yw{p:Prop}(h:p:=by simp[AV.aa]):p:=h
def Yx{p:Prop}(h:p:=by simp[AV.K,bF Ao.K]):p:=h
def Yy{p:Prop}(h:p:=by rw[hb];rfl):p:=h
def Yz{p:Prop}(h:p:=by simp[execOp,e,j,eqGuard,Go.binOp,h3,Result.andThen]):p:=h
def Y0{p:Prop}(h:p:=by simp[aM,AV.aa,aC _ _ _ x.dc,aF _ _ _ x.K]):p:=h
def Y1{p:Prop}(h:p:=by have:=hT.a7.len;omega):p:=h
def Y2{p:Prop}(h:p:=by subst e;simp at h2):p:=h
def Y3{p:Prop}(h:p:=by simp[execOp,e1,c,HL hT,Go.binOp,h3,Result.andThen]):p:=h
def Y4{p:Prop}(h:p:=by rw[g];rfl):p:=h
def Y5{p:Prop}(h:p:=by have:=Si b n;have:=hb.le;unfold Af.size at *; omega):p:=h
def Y6{p:Prop}(h:p:=by rw[b,List.map_append];rfl):p:=h
theorem Y7{p:Prop}(h:p:=by rw[List.length_append];rfl):p:=h
def Y8{p:Prop}(h:p:=by cases Y):p:=h
def Y9{p:Prop}(h:p:=by simp[eqGuard,Go.binOp,Op.shift,Int.not_lt.2 hn,hr]):p:=h
def YA{p:Prop}(h:p:=by rw[j];rfl):p:=h
def YB{p:Prop}(h:p:=by rw[i];rfl):p:=h
theorem YC{p:Prop}(h:p:=by simpa using b):p:=h
def YD{p:Prop}(h:p:=by simp only[eqGuard,Go.binOp,Op.intBits];rw[e];rfl):p:=h
def YE{p:Prop}(h:p:=by simp[AV.K,aB,AI.K,AR.K,aT,aZ]):p:=h
def YF{p:Prop}(h:p:=by rw[List.length_range,List.length_range];exact o):p:=h
def YG{p:Prop}(h:p:=by rw[List.length_range,List.length_range];exact n):p:=h
def YH{p:Prop}(h:p:=by rw[List.length_range,List.length_range];exact m):p:=h
def YI{p:Prop}(h:p:=by rw[<-hh.tk k (by simpa [AV.aa]using O)];exact hr):p:=h
def YJ{p:Prop}(h:p:=by simp only[execOp,e];rfl):p:=h
theorem YK{p:Prop}(h:p:=by simp[v]):p:=h
def YL{p:Prop}(h:p:=by simp[-List.map_take,aM,AV.aa,aE,aF,AI.K]):p:=h
def YM{p:Prop}(h:p:=by simp[-List.map_take, -List.map_map,aM,AV.aa,aE]):p:=h
def YN{p:Prop}(h:p:=by rw[Bool.eq_iff_iff];simp):p:=h
def YO{p:Prop}(h:p:=by simp[aE,AV.aa,aF,Ae.K,AH.K,aC,aZ]):p:=h
def YP{p:Prop}(h:p:=by rw[if_pos (Or.inr c)]at O;dsimp only at O;omega):p:=h
def YQ{p:Prop}(h:p:=by have:=aJ AG.au d.args;unfold AM.size;omega):p:=h
def YR{p:Prop}(h:p:=by simp[aQ,aL,Ob.aa,Tok.aa,aE,AV.aa,fI,pO]):p:=h
theorem YS{p:Prop}(h:p:=by rw[c];decide):p:=h
def YT{p:Prop}(h:p:=by rw[a4];rfl):p:=h
def YU{p:Prop}(h:p:=by rw[AH.ba]):p:=h
def YV{p:Prop}(h:p:=by simp[aB,Tbls.K,AV.K,Row.K]):p:=h
def YW{p:Prop}(h:p:=by simp[IntKind.wrap,IntKind.bits,IntKind.signed]):p:=h
def YX{p:Prop}(h:p:=by unfold AI.size;omega):p:=h
def YY{p:Prop}(h:p:=by simpa using hy):p:=h
theorem YZ{p:Prop}(h:p:=by simp[qI,e,h2]):p:=h
def Za{p:Prop}(h:p:=by show 4000<=4000+2001 * min 1 410;decide):p:=h
def Zb{p:Prop}(h:p:=by rw[he,List.length_map]):p:=h
def Zc{p:Prop}(h:p:=by rw[a,List.map_append,List.length_append];rfl):p:=h
def Zd{p:Prop}(h:p:=by unfold fJ;congr 1;rw[decide_eq_decide];simp):p:=h
theorem Ze{p:Prop}(h:p:=by simpa using O):p:=h
def Zf{p:Prop}(h:p:=by simp[X];rfl):p:=h
def Zg{p:Prop}(h:p:=by rw[a];omega):p:=h
def Zh{p:Prop}(h:p:=by rw[<-pR h];exact b x (by simp[Op.operands])):p:=h
def Zi{p:Prop}(h:p:=by simp[aB,Tbls.K]):p:=h
def Zj{p:Prop}(h:p:=by rw[Nat.add_mul];omega):p:=h
def Zk{p:Prop}(h:p:=by rw[List.length_map,g]):p:=h
def Zl{p:Prop}(h:p:=by rw[List.drop_zero,List.take_of_length_le om]):p:=h
def Zm{p:Prop}(h:p:=by have:=dI h1;omega):p:=h
theorem Zn{p:Prop}(h:p:=by simp[aQ,Ob.aa,aE,AV.aa,Tbls.C,fG]):p:=h
def Zo{p:Prop}(h:p:=by have:=e x;have:=e1 x;have:=a x;omega):p:=h
def Zp{p:Prop}(h:p:=by rw[dQ,if_neg (by rw[c];decide)];rfl):p:=h
def Zq{p:Prop}(h:p:=by have:=h.le;omega):p:=h
def Zr{p:Prop}(h:p:=by unfold kL;rw[j];simp only;rw[if_pos a]):p:=h
def Zs{p:Prop}(h:p:=by simp only[AV.K,v.bt];rfl):p:=h
def Zt{p:Prop}(h:p:=by simp only[AV.K,v.bo];rfl):p:=h
def Zu{p:Prop}(h:p:=by simp[plE,aE,AV.aa,dE,aC _ _ _ (dK p)]):p:=h
def Zv{p:Prop}(h:p:=by simp[eqGuard,Go.binOp,Op.intDiv,hn,hr]):p:=h
theorem om{p:Prop}(h:p:=by omega):p:=h
open Go
def ltT{a b:Nat}(h:a<b):decide ((a:Int)<(b:Int))=true:=XD
def ltF{a b:Nat}(h:¬a<b):decide ((a:Int)<(b:Int))=false:=Wh
def beT[BEq α][LawfulBEq α]{a b:α}(h:a=b):(a==b)=true:=XD
def beF[BEq α][LawfulBEq α]{a b:α}(h:¬a=b):(a==b)=false:=XD
def bnT[BEq α][LawfulBEq α]{a b:α}(h:¬a=b):(a != b)=true:=XD
def bnF[BEq α][LawfulBEq α]{a b:α}(h:a=b):(a != b)=false:=XD
inductive Tk where
  |no|full|nil|nn
  |own (k sz:Nat)
inductive AV where
  |undef
  |bool (b:Bool)
  |int (k:IntKind) (n:Int)
  |str (s:List UInt8)
  |agg (cs:List AV)
  |tup (cs:List AV)
  |slice (xs:List AV) (t:Tk)
  |ptr (i off:Nat)
  |ab (x:AV)
  |nilp
  |praw (a:Addr)
  |fn (f:Fn) (first cap:List AV)
  |nilfn
  |iface (t:TypeId) (v:AV)
  |nili
  |map (i:Nat)
  |nilmap
  |iter (i:Nat)
  |view (xs:List AV) (n:Nat)
  |Y (k z n lo X:Nat)
  |an (k z n j off:Nat)
structure A9 where
  base:Option Addr
  n:Nat
  cap:Nat
  sz:Nat
  lo:Nat
def A9.az(r:A9)(b o:Nat):Prop:=∃p:Addr,r.base=some p/\p.block=b/\p.off+r.lo * r.sz<=o/\o<p.off+r.cap * r.sz
structure Gh where
  bx:List Nat
  tk:List A9
  im:Nat->Nat->Prop
def CK(g:Gh)(sz:Nat)(a:Option Addr)(len cap:Nat):Tk->Prop
  | .no=>True
  | .full=>len=cap
  | .nil=>a=none/\cap=0
  | .nn=>a≠none
  | .own k z=>(sz=z\/len=0)/\∃r,g.tk[k]? =some r/\r.sz=z/\len<=r.n/\(len=r.n->r.base=a/\r.cap=cap/\(cap=0\/∀p:Addr,a=some p->p.spot=none))
def Bb(g:Gh)(w:World)(b o:Nat)(V:Value):Prop:=
  ∀(j:Nat) (u:Value),V.cells[j]? =some u->g.im b (o+j)/\w.cell? ⟨b,o+j,none⟩=some u/\u.oneCell'= true
def BA(g:Gh)(w:World)(b sz o:Nat)(Vs:List Value):Prop:=
  ∀(i:Nat) (V:Value),Vs[i]? =some V->V.cells.size=sz/\Bb g w b (o+i * sz) V
mutual
def Ab(g:Gh)(w:World):AV->Value->Prop
  | .undef,_=>True
  | .bool b,v=>v = .bool b
  | .int k n,v=>v = .int k n
  | .str s,v=>v = .string ⟨s.toArray⟩
  | .agg cs,v=>∃vs:Array Value,v = .agg vs/\AL g w cs vs.toList/\∀u∈vs.toList,u.oneCell'= true
  | .tup cs,v=>∃vs:Array Value,v = .tuple vs/\AL g w cs vs.toList
  | .slice xs t,v=>∃(a:Option Addr) (cap sz:Nat) (Vs:List Value),v = .slice a Vs.length cap/\Vs.length<=cap/\cap<=maxLen/\
      CK g sz a Vs.length cap t/\AL g w xs Vs/\(a=none->Vs=[]/\cap=0)/\
      ∀p:Addr,a=some p->(p.spot=none\/Vs=[])/\BA g w p.block sz p.off Vs
  | .ptr i off,v=>∃b,g.bx[i]? =some b/\v = .pointer (some ⟨b,off,none⟩)
  | .ab x,v=>∃b o V,v = .pointer (some ⟨b,o,none⟩)/\Bb g w b o V/\Ab g w x V
  | .nilp,v=>v = .pointer none
  | .praw a,v=>v = .pointer (some a)
  | .fn f fs cs,v=>∃vs ws:Array Value,v = .func f vs ws/\AL g w fs vs.toList/\AL g w cs ws.toList
  | .nilfn,v=>v = .nilFunc
  | .iface t x,v=>∃u,v = .iface t u/\Ab g w x u
  | .nili,v=>v = .nilIface
  | .map i,v=>∃b,g.bx[i]? =some b/\v = .map (some b)
  | .nilmap,v=>v = .map none
  | .iter i,v=>∃b,g.bx[i]? =some b/\v = .pointer (some ⟨b,0,none⟩)
  | .view xs n,v=>∃(a:Option Addr) (cap sz:Nat) (Vs:List Value),v = .slice a n cap/\n<=Vs.length/\Vs.length<=cap/\cap<=maxLen/\AL g w xs Vs/\(a=none->Vs=[]/\cap=0)/\
      ∀p:Addr,a=some p->(p.spot=none\/Vs=[])/\BA g w p.block sz p.off Vs
  | .Y k z n lo X,v=>∃(a:Option Addr) (cap:Nat),v = .slice a (X-lo) (cap-lo)/\lo<=X/\X<=n/\n<=cap/\cap<=maxLen/\(lo<cap->∃b o,a=some ⟨b,o,none⟩)/\∃r,g.tk[k]? =some r/\r.sz=z/\n<=r.n/\
      (n=r.n->r.lo=0/\r.cap=cap/\(lo<cap->∃p,r.base=some p/\p.spot=none/\a=some ⟨p.block,p.off+lo * z,none⟩))
  | .an k z n j off,v=>∃b o,v = .pointer (some ⟨b,o,none⟩)/\j<n/\∃r,g.tk[k]? =some r/\r.sz=z/\n<=r.n/\
      (n=r.n->r.lo=0/\∃p,r.base=some p/\p.spot=none/\b=p.block/\o=p.off+j * z+off)
def AL(g:Gh)(w:World):List AV->List Value->Prop
  |[],vs=>vs=[]
  |c::cs,vs=>∃v C,vs=v::C/\Ab g w c v/\AL g w cs C
end
structure Le(g:Gh)(w:World)(g': Gh)(w': World):Prop where
  im:∀b o,g.im b o->g'.im b o/\w'.cell? ⟨b,o,none⟩=w.cell? ⟨b,o,none⟩
  bx:∀(i b:Nat),g.bx[i]? =some b->g'.bx[i]? =some b
  tk:∀(k:Nat) (r:A9),g.tk[k]? =some r->∃r', g'.tk[k]? =some r'/\ (r'= r\/(r.n<r'.n/\r'.sz=r.sz))
def Tl(g:Gh)(w:World):Le g w g w:=⟨λ_ _ h=>⟨h,rfl⟩,λ_ _ h=>h,λ_ r h=>⟨r,h, .inl rfl⟩⟩
theorem Le.trans{g g' a:Gh}{w w' c:World}(h:Le g w g' w')(k:Le g' w' a c):Le g w a c where
  im b o X:=⟨(k.im b o (h.im b o X).1).1,(k.im b o (h.im b o X).1).2.trans (h.im b o X).2⟩;bx i b X:=k.bx i b (h.bx i b X);tk i r X:=by obtain⟨r', h1,h2⟩:=h.tk i r X;obtain⟨d,h3,h4⟩:=k.tk i r' h1;grind
section
variable {g g': Gh} {w w': World}
theorem Bb.mono(h:Le g w g' w'){b o:Nat}{V:Value}(a:Bb g w b o V):Bb g' w' b o V:=λj u hj=>let ⟨h1,h2,h3⟩:=a j u hj;⟨(h.im _ _ h1).1,(h.im _ _ h1).2.trans h2,h3⟩
theorem BA.mono(h:Le g w g' w'){b sz o:Nat}{Vs:List Value}(a:BA g w b sz o Vs):BA g' w' b sz o Vs:=λi V X=>⟨(a i V X).1,(a i V X).2.mono h⟩
theorem CK.mono(h:Le g w g' w'){sz:Nat}{a:Option Addr}{len cap:Nat}{t:Tk}(ht:CK g sz a len cap t):CK g' sz a len cap t:=by
  cases t with
  |no=>exact ht
  |full=>exact ht
  |nil=>exact ht
  |nn=>exact ht
  |own k z=>
    obtain⟨h0,r,h1,hz,h2,h3⟩:=ht;obtain⟨r', h4,b⟩:=h.tk k r h1;refine⟨h0,r', h4, ?_, ?_, ?_⟩
    · grind
    · grind
    · grind
mutual
theorem Ab.mono(h:Le g w g' w'):∀(x:AV) (v:Value),Ab g w x v->Ab g' w' x v
  | .undef,_,_=>trivial
  | .bool _,_,hv=>hv
  | .int _ _,_,hv=>hv
  | .str _,_,hv=>hv
  | .agg cs,_,⟨vs,e,hl,h1⟩=>⟨vs,e,AL.mono h cs _ hl,h1⟩
  | .tup cs,_,⟨vs,e,hl⟩=>⟨vs,e,AL.mono h cs _ hl⟩
  | .slice xs _,_,⟨a,cap,sz,Vs,e,h1,h2,h3,h4,f,c⟩=>⟨a,cap,sz,Vs,e,h1,h2,h3.mono h,AL.mono h xs _ h4,f,λp hp=>⟨(c p hp).1,(c p hp).2.mono h⟩⟩
  | .ptr _ _,_,⟨b,h1,e⟩=>⟨b,h.bx _ _ h1,e⟩
  | .ab x,_,⟨b,o,V,e,h1,h2⟩=>⟨b,o,V,e,h1.mono h,Ab.mono h x _ h2⟩
  | .nilp,_,hv=>hv
  | .praw _,_,hv=>hv
  | .fn _ i cs,_,⟨vs,ws,e,h1,h2⟩=>⟨vs,ws,e,AL.mono h i _ h1,AL.mono h cs _ h2⟩
  | .nilfn,_,hv=>hv
  | .iface _ x,_,⟨u,e,h1⟩=>⟨u,e,Ab.mono h x _ h1⟩
  | .nili,_,hv=>hv
  | .map _,_,⟨b,h1,e⟩=>⟨b,h.bx _ _ h1,e⟩
  | .nilmap,_,hv=>hv
  | .iter _,_,⟨b,h1,e⟩=>⟨b,h.bx _ _ h1,e⟩
  | .view xs _,_,⟨a,cap,sz,Vs,e,h0,h1,h2,h4,f,c⟩=>⟨a,cap,sz,Vs,e,h0,h1,h2,AL.mono h xs _ h4,f,λp hp=>⟨(c p hp).1,(c p hp).2.mono h⟩⟩
  | .Y _ _ _ _ _,_,⟨a,cap,e,h1,h2,h3,h4,f,r,hr,hz,hn,c⟩=>by
    obtain⟨r', d,hh⟩:=h.tk _ r hr;refine⟨a,cap,e,h1,h2,h3,h4,f,r', d, ?_, ?_, ?_⟩
    · grind
    · grind
    · grind
  | .an _ _ _ _ _,_,⟨b,o,e,hj,r,hr,hz,hn,c⟩=>by
    obtain⟨r', d,hh⟩:=h.tk _ r hr;refine⟨b,o,e,hj,r', d, ?_, ?_, ?_⟩
    · grind
    · grind
    · grind
theorem AL.mono(h:Le g w g' w'):∀(cs:List AV) (vs:List Value),AL g w cs vs->AL g' w' cs vs
  |[],_,hv=>hv
  |c::cs,_,⟨v,C,e,h1,h2⟩=>⟨v,C,e,Ab.mono h c _ h1,AL.mono h cs _ h2⟩
end
theorem AL.length:∀ {cs:List AV} {vs:List Value},AL g w cs vs->vs.length=cs.length
  |[],_,h=>by simp[show _=[] from h]
  |_::cs,_,⟨_,_,e,_,h2⟩=>by subst e;simp[AL.length h2]
theorem AL.get:∀ {cs:List AV} {vs:List Value} {i:Nat} {c:AV},AL g w cs vs->cs[i]? =some c->∃v,vs[i]? =some v/\Ab g w c v
  |c::_,_,0,_,⟨v,C,e,h1,_⟩,X=>by subst e;simp at X;subst X;exact⟨v,rfl,h1⟩
  |_::cs,_,i+1,_,⟨v,C,e,_,h2⟩,X=>by subst e;simpa using AL.get h2 Xh
theorem AL.nil:AL g w [] []:=rfl
theorem AL.cons{c:AV}{cs:List AV}{vs:List Value}(h:Ab g w c v)(hs:AL g w cs vs):AL g w (c::cs) (v::vs):=⟨v,vs,rfl,h,hs⟩
def AL.append:∀ {cs a:List AV} {vs us:List Value},AL g w cs vs->AL g w a us->AL g w (cs++a) (vs++us)
  |[],_,_,_,h,k=>by rw[show _=[] from h];exact k
  |_::_,_,_,_,⟨v,C,e,h1,h2⟩,k=>by subst e;exact⟨v,C++_,rfl,h1,h2.append k⟩
theorem AL.take:∀ {cs:List AV} {vs:List Value} (n:Nat),AL g w cs vs->AL g w (cs.take n) (vs.take n)
  |[],_,n,h=>by rw[show _=[] from h];simp[AL.nil]
  |_::_,_,0,_=>by simp[AL.nil]
  |_::_,_,n+1,⟨v,C,e,h1,h2⟩=>by subst e;exact⟨v,C.take n,rfl,h1,h2.take n⟩
theorem AL.drop:∀ {cs:List AV} {vs:List Value} (n:Nat),AL g w cs vs->AL g w (cs.drop n) (vs.drop n)
  |[],_,n,h=>by rw[show _=[] from h];simp[AL.nil]
  |_::_,_,0,h=>h
  |_::_,_,n+1,⟨v,C,e,h1,h2⟩=>by subst e;exact h2.drop n
theorem AL.set:∀ {cs:List AV} {vs:List Value} {c:AV} {v:Value} (i:Nat),AL g w cs vs->Ab g w c v->AL g w (cs.set i c) (vs.set i v)
  |[],_,_,_,i,h,_=>by rw[show _=[] from h];simp[AL.nil]
  |_::_,_,_,_,0,⟨v,C,e,h1,h2⟩,k=>by subst e;exact⟨_,C,rfl,k,h2⟩
  |_::_,_,_,_,i+1,⟨v,C,e,h1,h2⟩,k=>by subst e;exact⟨v,_,rfl,h1,h2.set i k⟩
end
class AK where
  table:List (Nat×AV)
  /-- How many cells such a variable has. -/
  ends:List (Nat×Nat)
def Aq[AK](im:Nat->Nat->Prop)(w:World):Prop:=(∀p∈AK.table,Ab ⟨[],[],im⟩ w (.ab p.2) (.pointer (some ⟨p.1,0,none⟩)))/\∀p∈AK.ends,im p.1 p.2/\w.cell? ⟨p.1,p.2,none⟩=none
theorem Aq.mono[AK]{im a:Nat->Nat->Prop}{w w': World}(h:∀b o,im b o->a b o/\w'.cell? ⟨b,o,none⟩=w.cell? ⟨b,o,none⟩)(c:Aq im w):Aq a w':= ⟨λp hp=>Ab.mono ⟨h,λ_ _ h=>Wm,λ_ _ h=>Wm⟩ _ _ (c.1 p hp),λp hp=>⟨(h _ _ (c.2 p hp).1).1,(h _ _ (c.2 p hp).1).2.trans (c.2 p hp).2⟩⟩
theorem Aq.le[AK]{g g': Gh}{w w': World}(h:Le g w g' w')(a:Aq g.im w):Aq g'.im w':= a.mono h.im
theorem Aq.a1[AK]{g:Gh}{w:World}(a:Aq g.im w){p:Nat×AV}(hp:p∈AK.table):Ab g w (.ab p.2) (.pointer (some ⟨p.1,0,none⟩)):=
  Ab.mono (g:=⟨[],[],g.im⟩) (w:=w) (g':= g) (w':= w) ⟨λ_ _ h=>⟨h,rfl⟩,λ_ _ h=>Wm,λ_ _ h=>Wm⟩ _ _ (a.1 p hp)
def I5:List (Nat×AV)->Nat->Option AV
  |[],_=>none
  |(t,i)::l,u=>bif Nat.beq t u then some (.ab i) else I5 l u
def J8:∀ {l:List (Nat×AV)} {u:Nat} {x:AV},I5 l u=some x->∃y,x = .ab y/\(u,y)∈l
  |(t,i)::l,u,x,h=>by
    unfold I5 at h;cases e:Nat.beq t u with
    |true=>rw[e]at h;have:=Nat.eq_of_beq_eq_true e;grind
    |false=>rw[e]at h;obtain⟨y,h1,h2⟩:=J8 (l:=l) Wp;simp_all
inductive Ob where
  |cells (cs:List AV)
  |map (es:List (AV×AV))
  |iter (s:List UInt8) (D:Nat)
inductive Tok where
  |len (n:Nat)
  |Y (xs:List AV)
structure St where
  B:List Ob
  T:List Tok
abbrev Br(w:World)(b sz o:Nat)(Vs:List Value):Prop:=BA ⟨[],[],λ_ _=>True⟩ w b sz o Vs
def A7(g:Gh)(w:World)(r:A9):Tok->Prop
  | .len n=>r.n=n/\r.lo=n
  | .Y xs=>r.n=xs.length/\r.lo=0/\r.n<=r.cap/\∃Vs,AL g w xs Vs/\(r.base=none->Vs=[])/\(∀V∈Vs,V.cells.size=r.sz)/\
      ∀p:Addr,r.base=some p->(p.spot=none\/r.cap=0)/\Br w p.block r.sz p.off Vs
theorem A7.mono{g g': Gh}{w w': World}(h:Le g w g' w'){r:A9}(O:∀b o,r.az b o->w'.cell? ⟨b,o,none⟩=w.cell? ⟨b,o,none⟩){t:Tok}(ht:A7 g w r t):A7 g' w' r t:=by
  cases t with
  |len n=>exact ht
  |Y xs=>
    obtain⟨h1,h2,h3,Vs,h4,f,k,a⟩:=ht;refine⟨h1,h2,h3,Vs,AL.mono h _ _ h4,f,k,λp hp=>⟨(a p hp).1,λi V X=>⟨((a p hp).2 i V X).1,λj u hj=> ?_⟩⟩⟩;obtain⟨e1,c⟩:=(a p hp).2 i V X;obtain⟨_,d,e⟩:=c j u hj;refine⟨trivial,(O _ _ ⟨p,hp,rfl, ?_, ?_⟩).trans d,e⟩
    · rw[h2];omega
    · have m:j<r.sz:=by have:=(Array.getElem?_eq_some_iff.1 hj).1;omega
      have l:i<xs.length:=by have:=(List.getElem?_eq_some_iff.1 X).1;rw[h4.length]at this;exact this
      have:(i+1) * r.sz<=r.cap * r.sz:=Nat.mul_le_mul_right _ om;grind
def Au(g:Gh)(w:World):List (AV×AV)->List MapEntry->Prop
  |[],es=>es=[]
  |(k,v)::l,es=>∃e C,es=e::C/\Ab g w k e.key/\Ab g w v e.val/\Au g w l C
def BJ(g:Gh)(w:World)(b:Nat):Ob->Prop
  | .cells cs=>∃(J:Array Value) (R:TypeId),w.heap[b]? =some (.cells J R (0,0))/\AL g w cs J.toList/\∀u∈J.toList,u.oneCell'= true
  | .map es=>∃(ents:Array MapEntry) (clock:Nat),w.heap[b]? =some (.map ents clock)/\Au g w es ents.toList
  | .iter s D=>w.heap[b]? =some (.stringIter ⟨s.toArray⟩ D)
theorem Au.mono{g g': Gh}{w w': World}(h:Le g w g' w'):∀(l:List (AV×AV)) (es:List MapEntry),Au g w l es->Au g' w' l es
  |[],_,hv=>hv
  |(_,_)::l,_,⟨e,C,he,h1,h2,h3⟩=>⟨e,C,he,Ab.mono h _ _ h1,Ab.mono h _ _ h2,Au.mono h l _ h3⟩
theorem BJ.mono{g g': Gh}{w w': World}(h:Le g w g' w'){b:Nat}{ob:Ob}(hb:w'.heap[b]? =w.heap[b]?)(d:BJ g w b ob):BJ g' w' b ob:=by
  cases ob with
  |cells cs=>obtain⟨J,R,h1,h2,h3⟩:=d;exact⟨J,R,hb.trans h1,AL.mono h _ _ h2,h3⟩
  |map es=>obtain⟨c,a,h1,h2⟩:=d;exact⟨c,a,hb.trans h1,Au.mono h _ _ h2⟩
  |iter s D=>exact hb.trans d
theorem BJ.lt{g:Gh}{w:World}{b:Nat}{ob:Ob}(c:BJ g w b ob):b<w.heap.size:=by
  have:∃x,w.heap[b]? =some x:=by
    cases ob with
    |cells cs=>obtain⟨J,R,h1,_⟩:=c;exact⟨_,h1⟩
    |map es=>obtain⟨d,a,h1,_⟩:=c;exact⟨_,h1⟩
    |iter s D=>exact⟨_,c⟩
  grind
structure Inv[AK](g:Gh)(H:St)(w:World):Prop where
  lenB:g.bx.length=H.B.length
  lenT:g.tk.length=H.T.length
  ob:∀(i b:Nat) (ob:Ob),g.bx[i]? =some b->H.B[i]? =some ob->BJ g w b ob
  nodup:g.bx.Nodup
  noim:∀b,b∈g.bx->∀o,¬g.im b o
  tok:∀(k:Nat) (t:Tok) (r:A9),g.tk[k]? =some r->H.T[k]? =some t->A7 g w r t
  tkz:∀(k:Nat) (r:A9),g.tk[k]? =some r->∀b o,r.az b o->¬g.im b o/\b∉g.bx/\(∃v,w.cell? ⟨b,o,none⟩=some v)/\w.frozen? ⟨b,o,none⟩=false
  tkd:∀(k k': Nat) (r r': A9),k≠k'-> g.tk[k]? =some r->g.tk[k']? =some r'-> ∀b o,r.az b o->¬r'.az b o
  imlt:∀b o,g.im b o->b<w.heap.size
  gl:Aq g.im w
structure Ar(g:Gh)(w:World)(g': Gh)(w': World):Prop where
  le:Le g w g' w'
  size:w.heap.size<=w'.heap.size
  os:w'.os=w.os
  tape:w'.tape=w.tape
  output:w'.output=w.output
  fr:∀b,b<w.heap.size->b∉g.bx->(∀(k:Nat) (r:A9),g.tk[k]? =some r->∀o,¬r.az b o)->w'.heap[b]? =w.heap[b]?
  frc:∀b o,b<w.heap.size->b∉g.bx->(∀(k:Nat) (r:A9),g.tk[k]? =some r->¬r.az b o)->w'.cell? ⟨b,o,none⟩=w.cell? ⟨b,o,none⟩/\w'.frozen? ⟨b,o,none⟩=w.frozen? ⟨b,o,none⟩
  newim:∀b o,g'.im b o->g.im b o\/w.heap.size<=b\/∃(k:Nat) (r:A9),g.tk[k]? =some r/\r.az b o
  newbx:∀b,b∈g'.bx->b∈g.bx\/w.heap.size<=b
  newz:∀(k:Nat) (r': A9),g'.tk[k]? =some r'-> ∀b o,r'.az b o->w.heap.size<=b\/∃r,g.tk[k]? =some r/\r.az b o
def fD(g:Gh)(w:World):Ar g w g w:=
  ⟨Tl g w,le_refl _,rfl,rfl,rfl,λ_ _ _ _=>rfl,λ_ _ _ _ _=>⟨rfl,rfl⟩,λ_ _ h => .inl h,λ_ h => .inl h,λ_ r h _ _ hz => .inr ⟨r,h,hz⟩⟩
theorem Ar.trans{g c e:Gh}{w:World}(h:Ar g w c f)(k:Ar c f e j):Ar g w e j where
  le:=h.le.trans k.le;size:=le_trans h.size k.size;os:=k.os.trans h.os;tape:=k.tape.trans h.tape;output:=k.output.trans h.output;fr b hb hn hz:=by
    have a:b∉c.bx:=λhm=>(h.newbx b hm).elim hn (λhs=>om)
    refine(k.fr b (Nat.lt_of_lt_of_le hb h.size) a (λi r hr o d=> ?_)).trans (h.fr b hb hn hz);rcases h.newz i r hr b o d with hs|⟨r0,h0,hz0⟩
    · omega
    · grind
  frc b o hb hn hz:=by
    have a:b∉c.bx:=λhm=>(h.newbx b hm).elim hn (λhs=>om)
    have h1:=h.frc b o hb hn hz;have h2:=k.frc b o (Nat.lt_of_lt_of_le hb h.size) a (λi r hr d=>by
      rcases h.newz i r hr b o d with hs|⟨r0,h0,hz0⟩
      · omega
      · exact hz i r0 h0 hz0)
    simp_all
  newim b o X:=by
    rcases k.newim b o X with X|hs|⟨i,r,hr,hz⟩
    · exact h.newim b o X
    · exact .inr (.inl (le_trans h.size hs))
    · rcases h.newz i r hr b o hz with hs|⟨r0,h0,hz0⟩
      · omega
      · grind
  newbx b hm:=by
    rcases k.newbx b hm with hm|hs
    · exact h.newbx b hm
    · exact .inr (le_trans h.size hs)
  newz i r' hr b o hz:=by
    rcases k.newz i r' hr b o hz with hs|⟨r1,h1,hz1⟩
    · exact .inl (le_trans h.size hs)
    · exact h.newz i r1 h1 b o hz1
def Ar.drew(g:Gh)(w:World)(n:Nat):Ar g w g { w with drawn:=n }:=
  ⟨⟨λ_ _ h=>⟨h,rfl⟩,λ_ _ h=>h,λ_ r h=>⟨r,h, .inl rfl⟩⟩,le_refl _,rfl,rfl,rfl,λ_ _ _ _=>rfl,λ_ _ _ _ _=>⟨rfl,rfl⟩,λ_ _ h => .inl h,λ_ h => .inl h,λ_ r h _ _ hz => .inr ⟨r,h,hz⟩⟩
def Inv.drew[AK]{g:Gh}{H:St}{w:World}(h:Inv g H w)(n:Nat):Inv g H { w with drawn:=n } where
  lenB:=h.lenB;lenT:=h.lenT;ob i b ob h1 h2:=(h.ob i b ob h1 h2).mono (w':= { w with drawn:=n }) (Ar.drew g w n).le rfl;nodup:=h.nodup;noim:=h.noim;tok k t r h1 h2:=(h.tok k t r h1 h2).mono (w':= { w with drawn:=n }) (Ar.drew g w n).le λ_ _ _=>rfl
  tkz:=h.tkz;tkd:=h.tkd;imlt:=h.imlt;gl:=Aq.le (Ar.drew g w n).le h.gl
def Inv.cu[AK]{g:Gh}{H:St}{w:World}(h:Inv g H w){k n:Nat}{r:A9}(h1:g.tk[k]? =some r)(h2:H.T[k]? =some (.len n)):r.n=n/\r.lo=n:=h.tok k _ r h1 h2
abbrev AE:=List (Nat×AV)
def lk:AE->Nat->AV
  |[],_ => .undef
  |(t,v)::s,u=>bif Nat.beq t u then v else lk s u
def A3(g:Gh)(w:World)(s:AE)(tmps:Array Value):Prop:=∀t,Ab g w (lk s t) (tmps.getD t undef)
theorem A3.mono{g g': Gh}{w w': World}(h:Le g w g' w'){s:AE}(hs:A3 g w s tmps):A3 g' w' s tmps:=λt=>Ab.mono h _ _ (hs t)
theorem A3.put{g:Gh}{w:World}{s:AE}{d:Nat}{v:AV}{u:Value}(hs:A3 g w s a.tmps)(b:d<a.tmps.size)(hv:Ab g w v u):
    A3 g w ((d,v)::s) (a.put (some d) u).tmps:=by
  intro t;unfold lk;by_cases e:d=t
  · subst e;simp[Act.put,b,hv]
  · have hb:Nat.beq d t=false:=by
      cases h:Nat.beq d t with
      |false=>rfl
      |true=>exact absurd (Nat.eq_of_beq_eq_true h) e
    rw[hb];simpa [Act.put,Array.getElem?_setIfInBounds,e]using hs t
def yY:Value->AV
  | .bool b => .bool b
  | .int k n => .int k n
  | .string s => .str s.data.toList
  | .pointer none => .nilp
  | .slice none 0 0 => .slice [] .nil
  | .map none => .nilmap
  | .nilFunc => .nilfn
  | .nilIface => .nili
  |_ => .undef
def qL:Value->AV
  | .agg cs=>bif cs.toList.all (·.oneCell') then .agg (cs.toList.map yY) else .undef
  |v=>yY v
def ev[AK](s:AE):Operand->AV
  | .tmp t=>lk s t
  | .const v=>qL v
  | .global g=>(I5 AK.table g).getD .undef
  | .func f => .fn (.func f) [] []
def jV(g:Gh)(w:World)(v:Value):Ab g w (yY v) v:=by
  cases v with
  |bool b=>rfl
  |int k n=>rfl
  |string s=>show _=_;cases s;simp
  |pointer a=>cases a<;>first|rfl|trivial
  |slice a l c=>
    cases a with
    |some a=>trivial
    |none=>
      cases l with
      |succ l=>trivial
      |zero=>
        cases c with
        |succ c=>trivial
        |zero=>exact⟨none,0,0,[],rfl,le_refl _,by simp[maxLen],⟨rfl,rfl⟩,rfl,λ_=>⟨rfl,rfl⟩,λp hp=>Xm⟩
  |map r=>cases r<;>first|rfl|trivial
  |_=>first|rfl|trivial
def Eg(g:Gh)(w:World):∀vs:List Value,AL g w (vs.map yY) vs
  |[]=>rfl
  |v::vs=>⟨v,vs,rfl,jV g w v,Eg g w vs⟩
def kR(g:Gh)(w:World)(v:Value):Ab g w (qL v) v:=by
  cases v with
  |agg cs=>
    simp only[qL];cases h:cs.toList.all (·.oneCell') with
    |false=>trivial
    |true=>exact⟨cs,rfl,Eg g w _,all_eq_true.1 h⟩
  |bool b=>exact jV g w (.bool b)
  |int k n=>exact jV g w (.int k n)
  |string s=>exact jV g w (.string s)
  |pointer p=>exact jV g w (.pointer p)
  |slice p l c=>exact jV g w (.slice p l c)
  |map r=>exact jV g w (.map r)
  |nilFunc=>exact jV g w .nilFunc
  |nilIface=>exact jV g w .nilIface
  |_=>trivial
def Fx[AK]{g:Gh}{w:World}(a:Aq g.im w)(i:Nat):Ab g w ((I5 AK.table i).getD .undef) (.pointer (some ⟨i,0,none⟩)):=by
  cases h:I5 AK.table i with
  |none=>trivial
  |some x=>obtain⟨y,rfl,b⟩:=J8 h;exact a.a1 b
def Fy[AK]{g:Gh}{w:World}{s:AE}(b:Aq g.im w)(hs:A3 g w s a.tmps)(x:Operand):Ab g w (ev s x) (a.eval x):=by
  cases x with
  |tmp t=>exact hs t
  |const v=>exact kR g w v
  |global i=>exact Fx b i
  |func f=>exact⟨#[], #[],rfl,rfl,rfl⟩
def AS[AK](P:Program)(o:Oper)(s:AE)(H σ': St)(v:AV):Prop:=
  ∀(g:Gh) (w:World) (a:Act) (next:Act->World->Prop) (Q:Exit->Act->World->Prop),Inv g H w->(∀x,x∈o.op.operands.toList->Ab g w (ev s x) (a.eval x))->
    (∀u w' g', Ar g w g' w'-> Inv g' σ' w'-> Ab g' w' v u->next (a.put o.dst u) w')->o.wp P a w next Q
inductive Ak where
  |pure|rb|wb|tk|all|rt
  |ri (i:Nat)
  |wi (i:Nat)
  deriving DecidableEq
def AZ[AK](t:Ak)(P:Program)(o:Oper)(s:AE)(H σ': St)(v:AV):Prop:=
  match t with
  | .pure=>σ'= H/\∀τ,AS P o s τ τ v
  | .rb=>σ'= H/\∀T,AS P o s ⟨H.B,T⟩ ⟨H.B,T⟩ v
  | .wb=>σ'.T=H.T/\∀T,AS P o s ⟨H.B,T⟩ ⟨σ'.B,T⟩ v
  | .tk=>σ'.B=H.B/\∀B,AS P o s ⟨B,H.T⟩ ⟨B,σ'.T⟩ v
  | .all=>AS P o s H σ' v
  | .rt=>σ'= H/\∀B,AS P o s ⟨B,H.T⟩ ⟨B,H.T⟩ v
  | .ri i=>σ'= H/\∀(B:List Ob) (T:List Tok),B[i]? =H.B[i]? ->AS P o s ⟨B,T⟩ ⟨B,T⟩ v
  | .wi i=>∃ob,σ'= ⟨H.B.set i ob,H.T⟩/\∀(B:List Ob) (T:List Tok),B[i]? =H.B[i]? ->AS P o s ⟨B,T⟩ ⟨B.set i ob,T⟩ v
def AZ.step[AK]{t:Ak}{P:Program}{s:AE}{H σ': St}{v:AV}(h:AZ t P o s H σ' v):AS P o s H σ' v:=by
  cases t with
  |pure=>obtain⟨rfl,h⟩:=h;exact h _
  |rb=>obtain⟨rfl,h⟩:=h;exact h _
  |wb=>obtain⟨e,h⟩:=h;cases H;cases σ';simp_all
  |tk=>obtain⟨e,h⟩:=h;cases H;cases σ';simp_all
  |all=>exact h
  |rt=>obtain⟨rfl,h⟩:=h;exact h _
  |ri i=>obtain⟨rfl,h⟩:=h;exact h _ _ rfl
  |wi i=>obtain⟨ob,rfl,h⟩:=h;exact h _ _ rfl
variable [AK]
def iJ(d:Option Tmp)(v:AV)(s:AE):AE:=
  match d with
  |some d=>(d,v)::s
  |none=>s
def A6(A:Array Oper)(s:AE)(o:Oper)(b:Bool):Prop:=
  match o.guard with
  |none=>b=true
  |some (j,want)=>∃d,(A[j]?).bind (·.dst)=some d/\((∃x,lk s d = .bool x/\(x==want)=b)\/(lk s d = .tup []/\b=false))
inductive AX where
  |normal|exit (id:Nat)|goto (l:Nat)|ret
  |pan (x:AV)
def Ak.wB:Ak->Bool
  | .wb | .all=>true
  |_=>false
def Ak.rB:Ak->Bool
  | .rb | .wb | .all=>true
  | .ri _ | .wi _=>true
  |_=>false
def Ak.wT:Ak->Bool
  | .tk | .all=>true
  |_=>false
def Ak.rT:Ak->Bool
  | .tk | .all | .rt=>true
  |_=>false
def Ak.one:Ak->Ak->Bool
  | .wi i, .wi j=>Nat.beq i j
  | .wi i, .ri j=>Nat.beq i j
  | .ri i, .wi j=>Nat.beq i j
  | .wi _, .rb=>true
  | .rb, .wi _=>true
  |_,_=>false
def Ak.bp(a b:Ak):Bool:=(a.wB&&b.rB)||(a.rB&&b.wB)||((a.wT&&b.rT)||(a.rT&&b.wT))||a.one b
def Qq:List Oper->List Nat->List Nat
  |[],I=>I
  |o::os,I=>Qq os (I++[o.after.toList.foldl (λm e=>bif Region.binds .any e then (m ||| 2 ^ e.on) ||| I.getD e.on 0 else m) 0])
def rR(A:Array Oper)(tags:List Ak)(ms:List Nat)(oj:Oper)(j:Nat):Nat->List Oper->Bool
  |_,[]=>true
  |i,oi::C=>bif Nat.blt i j then ((oi.apart A oj && !(tags.getD i .all).bp (tags.getD j .all))||(ms.getD j 0).testBit i)&&rR A tags ms oj j (i+1) C else true
def IZ(A:Array Oper)(tags:List Ak)(ms:List Nat):Nat->List Oper->Bool
  |_,[]=>true
  |j,o::C=>o.after.toList.all (λe => !Region.binds .any e||Nat.blt e.on j)&&rR A tags ms o j 0 A.toList&&IZ A tags ms (j+1) C
def xJ(A:Array Oper)(tags:List Ak):Bool:=IZ A tags (Qq A.toList []) 0 A.toList
def aB5(P:Program)(o:Oper)(s:AE)(H σ': St)(x:AV):Prop:=
  ∀(g:Gh) (w:World) (a:Act) (next:Act->World->Prop) (Q:Exit->Act->World->Prop),Inv g H w->(∀x,x∈o.op.operands.toList->Ab g w (ev s x) (a.eval x))->
    (∀u w' g', Ar g w g' w'-> Inv g' σ' w'-> Ab g' w' x u->Q (.panic [{ v:=u,recovered:=false }]) a w')->o.wp P a w next Q
def AD(P:Program)(A:Array Oper)(G:Bool)(K:AX->AE->St->Prop):List Oper->List Ak->AE->St->Prop
  |[],I,s,H=>(G=true->xJ A I.reverse=true)/\K .normal s H
  |o::C,I,s,H=>
    (A6 A s o true/\∃t v σ', AZ t P o s H σ' v/\AD P A G K C (t::I) (iJ o.dst v s) σ')\/
    (A6 A s o false/\AD P A G K C (.pure::I) (iJ o.dst (.tup []) s) H)\/
    (G=false/\A6 A s o true/\∃x σ', aB5 P o s H σ' x/\K (.pan x) s σ')
section
variable {P:Program} {A:Array Oper}
def HH{s:AE}(h:A6 A s o b){g:Gh}{w:World}{a:Array Value}(l:∀d,(∃k∈A.toList,k.dst=some d)->d<a.size)
    (hs:∀j c d,o.guard=some (j,c)->(A[j]?).bind (·.dst)=some d->Ab g w (lk s d) (a.getD d undef)):
    Region.wanted o (yielded A a)=b:=by
  unfold A6 at h;unfold Region.wanted;cases e:o.guard with
  |none=>rw[e]at h;exact h.symm
  |some p=>
    obtain⟨j,c⟩:=p;rw[e]at h;obtain⟨d,h1,h4⟩:=h;have hr:=hs j c d e h1;have hlt:d<a.size:=l d (by
      cases f:A[j]? with
      |none=>rw[f]at h1;cases h1
      |some k=>rw[f]at h1;exact⟨k,by simpa using Array.mem_of_getElem? f,h1⟩)
    rcases h4 with⟨x,h2,h3⟩|⟨h2,h3⟩
    · rw[h2]at hr
      have i:a.getD d undef = .bool x:=hr;have hy:yielded A a j=some x:=by unfold yielded;simp_all
      simp_all
    · rw[h2]at hr
      obtain⟨vs,i,hv⟩:=hr;have hy:yielded A a j=none:=by unfold yielded;simp_all
      simp_all
def Fm{Q:Exit->Act->World->Prop}{K:AX->AE->St->Prop}{N:Nat}{D:List Deferred}{g0:Gh}{w0:World}
    (m:∀d,(∃r∈A.toList,r.dst=some d)->d<N)
    (n:∀s H g w (a:Act),a.tmps.size=N->a.defers=D->Ar g0 w0 g w->Inv g H w->A3 g w s a.tmps->K .normal s H->Q .normal a w)
    (p:∀x s H g w (a:Act) u,a.tmps.size=N->a.defers=D->Ar g0 w0 g w->Inv g H w->A3 g w s a.tmps->K (.pan x) s H->Ab g w x u->Q (.panic [{ v:=u,recovered:=false }]) a w):
    ∀(l:List Oper) (I:List Ak) (s:AE) (H:St) (g:Gh) (w:World) (a:Act),(∀o∈l,o∈A.toList)->a.tmps.size=N->a.defers=D->Ar g0 w0 g w->Inv g H w->A3 g w s a.tmps->
      AD P A false K l I s H->wpList P A Q l a w
  |[],I,s,H,g,w,a,_,ha,f,he,X,hs,h=>wpList_nil (n s H g w a ha f he X hs h.2)
  |o::C,I,s,H,g,w,a,hl,ha,f,he,X,hs,h=>by
    have e:∀v u w' g', Ar g w g' w'-> Ab g' w' v u->A3 g' w' (iJ o.dst v s) (a.put o.dst u).tmps/\(a.put o.dst u).tmps.size=N/\(a.put o.dst u).defers=D:=by
      intro v u w' g' Y hv
      have k:=hs.mono Y.le
      cases j:o.dst with
      |none=>exact⟨k,ha,f⟩
      |some d=>
        refine⟨A3.put k (by rw[ha];exact m d ⟨o,hl o Wa,j⟩) hv, ?_,f⟩
        simpa [Act.put]using ha
    have c:∀b,A6 A s o b->Region.wanted o (yielded A a.tmps)=b:=λb hb=>
      HH hb (λd f=>by rw[ha];exact m d f) (λ_ _ d _ _=>hs d)
    unfold wpList
    rcases h with⟨hw,t,v,σ', i,hr⟩|⟨hw,hr⟩|⟨_,hw,x,σ', i,hr⟩
    · rw[c true hw,if_pos rfl]
      refine .inl (i.step g w a _ Q X (λx _=>Fy X.gl hs x) λu w' g' Y hi' hv=> ?_)
      obtain⟨h1,h2,h3⟩:=e v u w' g' Y hv
      exact Fm m n p C _ _ σ' g' w' _ (λo q=>hl o (by simp[q])) h2 h3 (he.trans Y) hi' h1 hr
    · rw[c false hw,if_neg Wa]
      obtain⟨h1,h2,h3⟩:=e (.tup []) undef w g (fD g w) ⟨#[],rfl,rfl⟩
      exact Fm m n p C _ _ H g w _ (λo q=>hl o (by simp[q])) h2 h3 he X h1 hr
    · rw[c true hw,if_pos rfl]
      refine .inl (i g w a _ Q X (λx _=>Fy X.gl hs x) λu w' g' Y hi' hv=> ?_)
      exact p x s σ' g' w' a u ha f (he.trans Y) hi' (hs.mono Y.le) hr hv
end
section
variable {P:Program} {A:Array Oper}
structure Trace(P:Program)(A:Array Oper)(k:Nat)(S:Nat->AE)(Z:Nat->St)(T:Nat->Ak)(V:Nat->AV):Prop where
  bs:∀(i:Nat) (o:Oper),k<=i->A[i]? =some o->S (i+1)=iJ o.dst (V i) (S i)
  step:∀(i:Nat) (o:Oper),k<=i->A[i]? =some o->
    (A6 A (S i) o true/\AZ (T i) P o (S i) (Z i) (Z (i+1)) (V i))\/(A6 A (S i) o false/\V i = .tup []/\Z (i+1)=Z i/\T i = .pure)
def J3{K:AX->AE->St->Prop}:∀(l:List Oper) (k:Nat) (I:List Ak) (s:AE) (H:St),(∀j,l[j]? =A[k+j]?)->AD P A true K l I s H->
    ∃(S:Nat->AE) (Z:Nat->St) (T:Nat->Ak) (V:Nat->AV),Trace P A k S Z T V/\S k=s/\Z k=H/\K .normal (S (k+l.length)) (Z (k+l.length))/\
      xJ A (I.reverse++(List.range' k l.length).map T)=true
  |[],k,I,s,H,hl,h=>by
    refine⟨λ_=>s,λ_=>H,λ_ => .pure,λ_ => .undef,⟨λi o X a=> ?_,λi o X a=> ?_⟩,rfl,rfl,h.2,by simpa using h.1 rfl⟩
    · have:=hl (i-k)
      simp_all
    · have:=hl (i-k)
      simp_all
  |o::C,k,I,s,H,hl,h=>by
    have hk:A[k]? =some o:=by simpa using (hl 0).symm
    have c:∀j,C[j]? =A[k+1+j]? :=λj=>by have:=hl (j+1);simpa [Nat.add_assoc,Nat.add_comm 1 j]using this
    have fin:∀(t:Ak) (v:AV) (σ': St),((A6 A s o true/\AZ t P o s H σ' v)\/(A6 A s o false/\v = .tup []/\σ'= H/\t = .pure))->
        AD P A true K C (t::I) (iJ o.dst v s) σ'->
        ∃(S:Nat->AE) (Z:Nat->St) (T:Nat->Ak) (V:Nat->AV),Trace P A k S Z T V/\S k=s/\Z k=H/\K .normal (S (k+(o::C).length)) (Z (k+(o::C).length))/\
          xJ A (I.reverse++(List.range' k (o::C).length).map T)=true:=by
      intro t v σ' b hr
      obtain⟨S,Z,T,V,ht,hS,m,g,d⟩:=J3 C (k+1) (t::I) _ σ' c hr
      refine⟨λi=>if i=k then s else S i,λi=>if i=k then H else Z i,λi=>if i=k then t else T i,λi=>if i=k then v else V i,⟨λi f X a=> ?_,λi f X a=> ?_⟩,Wa,Wa, ?_, ?_⟩
      · by_cases e:i=k
        · simp_all
        · have:=ht.bs i f om a
          grind
      · by_cases e:i=k
        · simp_all
        · have:=ht.step i f om a
          grind
      · grind
      · rw[show (List.range' k (o::C).length).map (λi=>if i=k then t else T i)=t::(List.range' (k+1) C.length).map T from ?_]
        · simpa using d
        · simp only[List.length_cons,List.range'_succ,List.map_cons,if_true]
          congr 1
          apply List.map_congr_left
          intro i X
          rw[List.mem_range']at X
          obtain⟨j,hj,rfl⟩:=X
          simp;omega
    rcases h with⟨hw,t,v,σ', b,hr⟩|⟨hw,hr⟩|⟨hf,_⟩
    · exact fin t v σ' (.inl ⟨hw,b⟩) hr
    · exact fin .pure (.tup []) H (.inr ⟨hw,rfl,rfl,rfl⟩) hr
    · cases hf
def Bh(A:Array Oper)(D:Nat->Prop):Prop:=∀j o,D j->A[j]? =some o->∀e∈o.after.toList,Region.binds .any e=true->D e.on
def HI(I:List Nat)(i:Nat):∀(es:List Edge) (m:Nat),
    (es.foldl (λm e=>bif Region.binds .any e then (m ||| 2 ^ e.on) ||| I.getD e.on 0 else m) m).testBit i=true->
    m.testBit i=true\/∃e∈es,Region.binds .any e=true/\(i=e.on\/(I.getD e.on 0).testBit i=true)
  |[],m,h => .inl h
  |e::es,m,h=>by
    rw[List.foldl_cons]at h
    rcases HI I i es _ h with h|⟨e', he', h1,h2⟩
    · grind
    · grind
def Fo(D:Nat->Prop)(h:Bh A D):∀(g:List Oper) (I:List Nat),(∀j,g[j]? =A[I.length+j]?)->
    (∀(j i:Nat) (o:Oper),j<I.length->A[j]? =some o->(I.getD j 0).testBit i=true->(∀e∈o.after.toList,Region.binds .any e=true->D e.on)->D i)->
    ∀(j i:Nat) (o:Oper),A[j]? =some o->((Qq g I).getD j 0).testBit i=true->(∀e∈o.after.toList,Region.binds .any e=true->D e.on)->D i
  |[],I,b,a,j,i,o,hj,hb,he=>by
    have hlt:j<I.length:=by
      refine Nat.lt_of_not_le λd=> ?_
      have:=b (j-I.length)
      simp_all
    exact a j i o hlt hj hb he
  |o':: g,I,b,a,j,i,o,hj,hb,he=>by
    have h0:A[I.length]? =some o':= by simpa using (b 0).symm
    refine Fo D h g _ (λj=> ?_) (λj i o hlt hj hb he=> ?_) j i o hj hb he
    · have:=b (j+1)
      grind
    · simp only[List.length_append,List.length_cons,List.length_nil]at hlt
      by_cases e:j<I.length
      · rw[List.getD_eq_getElem?_getD,List.getElem?_append_left e, <-List.getD_eq_getElem?_getD]at hb
        grind
      · have m:j=I.length:=om
        subst m
        rw[h0]at hj
        cases hj
        rw[List.getD_eq_getElem?_getD,List.getElem?_append_right (le_refl _)]at hb
        simp only[Nat.sub_self,List.getElem?_cons_zero,getD_some]at hb
        rcases HI I i _ 0 hb with hb|⟨ed,hed,hbi,X⟩
        · simp at hb
        · have k:=he ed hed hbi
          rcases X with rfl|X
          · exact k
          · have f:ed.on<I.length:=by
              refine Nat.lt_of_not_le λd=> ?_
              rw[List.getD_eq_getElem?_getD,List.getElem?_eq_none d]at X
              simp at X
            cases c:A[ed.on]? with
            |none=>
              have:I.length<A.size:=(Array.getElem?_eq_some_iff.1 h0).1
              have:A.size<=ed.on:=WY
              omega
            |some l=>exact a ed.on i l f c X (h ed.on l k c)
def vM{a:List Ak}{c:List Nat}{d:Oper}{j:Nat}:∀(l:List Oper) (k:Nat),rR A a c d j k l=true->∀(i:Nat) (b:Oper),l[i]? =some b->k+i<j->
    (b.apart A d=true/\(a.getD (k+i) .all).bp (a.getD j .all)=false)\/(c.getD j 0).testBit (k+i)=true
  |[],_,_,i,b,X,_=>by simp at X
  |o::C,k,h,i,b,X,hlt=>by
    unfold rR at h;have hk:Nat.blt k j=true:=by rw[Nat.blt_eq];omega
    rw[hk]at h;simp only[cond_true,and_eq_true]at h;cases i with
    |zero=>simp_all
    |succ i=>have:=vM C (k+1) h.2 i b Xh om;grind
def vN{a:List Ak}{b:List Nat}:∀(l:List Oper) (k:Nat),IZ A a b k l=true->∀(j:Nat) (o:Oper),l[j]? =some o->
    (∀e∈o.after.toList,Region.binds .any e=true->e.on<k+j)/\rR A a b o (k+j) 0 A.toList=true
  |[],_,_,j,o,hj=>by simp at hj
  |o::C,k,h,j,c,hj=>by
    unfold IZ at h;simp only[and_eq_true,all_eq_true]at h;cases j with
    |zero=>simp at hj;subst hj;refine⟨λe he hb=> ?_,by simpa using h.1.2⟩;have:=h.1.1 e he;simp_all
    |succ j=>have:=vN C (k+1) h.2 j c Xl;grind
structure BK(A:Array Oper)(T:Nat->Ak):Prop where
  dh:∀(j:Nat) (o:Oper),A[j]? =some o->∀e∈o.after.toList,Region.binds .any e=true->e.on<j
  pair:∀(D:Nat->Prop),Bh A D->∀(i j:Nat) (oi oj:Oper),A[i]? =some oi->A[j]? =some oj->i<j->(∀e∈oj.after.toList,Region.binds .any e=true->D e.on)->
    (oi.apart A oj=true/\(T i).bp (T j)=false)\/D i
def LX{T:Nat->Ak}(h:xJ A ((List.range' 0 A.toList.length).map T)=true):BK A T:=by
  have c:∀i,i<A.size->((List.range' 0 A.toList.length).map T).getD i .all=T i:=Xw
  refine⟨λj o hj=> ?_,λD e i j f d X hj hlt he=> ?_⟩
  · have:=(vN _ 0 h j o Xl).1;simp_all
  · have a:=(vN _ 0 h j d Xl).2;rw[Nat.zero_add]at a;have b:=(Array.getElem?_eq_some_iff.1 hj).1;have:=vM _ 0 a i f Xh om;rw[Nat.zero_add,c i om,c j b]at this;rcases this with h1|h1
    · exact .inl h1
    · exact .inr (Fo D e A.toList [] Wa (λj i o hj=>by simp at hj) j i d hj h1 he)
noncomputable def valAt (A:Array Oper) (s0:AE) (V:Nat->AV) (D:Nat->Bool):Nat->Nat->AV
  |0,t=>lk s0 t
  |k+1,t=>if D k=true/\((A[k]?).bind (·.dst))=some t then V k else valAt A s0 V D k t
def Ak.bk:Ak->Option Nat
  | .wi i=>some i
  |_=>none
def Ak.bi(t:Ak):Bool:=t.wB||t.bk.isSome
def aB6(l:List Ob)(i:Nat):Option Ob->List Ob
  |some ob=>l.set i ob
  |none=>l
def bAt(Z:Nat->St)(T:Nat->Ak)(D:Nat->Bool):Nat->List Ob
  |0=>(Z 0).B
  |k+1=>if D k=true then
      (if (T k).wB=true then (Z (k+1)).B else match (T k).bk with
        |some i=>aB6 (bAt Z T D k) i (Z (k+1)).B[i]?
        |none=>bAt Z T D k)
    else bAt Z T D k
def tAt(Z:Nat->St)(T:Nat->Ak)(D:Nat->Bool):Nat->List Tok
  |0=>(Z 0).T
  |k+1=>if D k=true/\(T k).wT=true then (Z (k+1)).T else tAt Z T D k
theorem Tf(d:Option Tmp)(v:AV)(s:AE)(t:Nat):lk (iJ d v s) t=if d=some t then v else lk s t:=by
  cases d with
  |none=>simp[iJ]
  |some d=>simp only[iJ,lk];simp_all
theorem AZ.cc{t:Ak}{s:AE}{H σ': St}{v:AV}(h:AZ t P o s H σ' v)(ht:t.bi=false):σ'.B=H.B:=by
  cases t with
  |pure=>exact congrArg St.B h.1
  |rb=>exact congrArg St.B h.1
  |wb=>cases ht
  |tk=>exact h.1
  |all=>cases ht
  |rt=>exact congrArg St.B h.1
  |ri i=>exact congrArg St.B h.1
  |wi i=>cases ht
def AZ.b6{i:Nat}{s:AE}{H σ': St}{v:AV}(h:AZ (.wi i) P o s H σ' v):∃ob,σ'.B=H.B.set i ob:=by obtain⟨ob,h1,_⟩:=h;grind
theorem AZ.cg{t:Ak}{s:AE}{H σ': St}{v:AV}(h:AZ t P o s H σ' v)(ht:t.wT=false):σ'.T=H.T:=by
  cases t with
  |pure=>exact congrArg St.T h.1
  |rb=>exact congrArg St.T h.1
  |wb=>exact h.1
  |tk=>cases ht
  |all=>cases ht
  |rt=>exact congrArg St.T h.1
  |ri i=>exact congrArg St.T h.1
  |wi i=>obtain⟨ob,rfl,_⟩:=h;rfl
section run
variable {S:Nat->AE} {Z:Nat->St} {T:Nat->Ak} {V:Nat->AV} (ht:Trace P A 0 S Z T V) (hor:BK A T)
theorem Trace.cc(ht:Trace P A 0 S Z T V){i:Nat}(a:A[i]? =some o)(h:(T i).bi=false):(Z (i+1)).B=(Z i).B:=by
  rcases ht.step i o (zero_le _) a with⟨_,hs⟩|⟨_,_,hz,_⟩
  · exact hs.cc h
  · rw[hz]
def Trace.b6(ht:Trace P A 0 S Z T V){k i:Nat}(a:A[k]? =some o)(h:T k = .wi i):∃ob,(Z (k+1)).B=(Z k).B.set i ob:=by
  rcases ht.step k o (zero_le _) a with⟨_,hs⟩|⟨_,_,hz,hp⟩
  · rw[h]at hs;exact hs.b6
  · simp_all
def I0{t:Ak}{i:Nat}(h:t.bk=some i):t = .wi i:=by cases t<;>cases h;rfl
theorem Fp{l m:List Ob}{i:Nat}{ob:Ob}(h:m[i]? =l[i]?):aB6 m i (l.set i ob)[i]? =m.set i ob:=by
  by_cases e:i<l.length
  · rw[List.getElem?_set_self e];rfl
  · have a:¬i<m.length:=λhlt=>by simp_all
    rw[List.getElem?_eq_none Wh,List.set_eq_of_length_le om];rfl
def Ak.bh(t:Ak)(i:Nat):Bool := !t.wB&&(match t.bk with|some j => !Nat.beq j i|none=>true)
theorem Trace.cx(ht:Trace P A 0 S Z T V){k i:Nat}(a:A[k]? =some o)(h:(T k).bh i=true):(Z (k+1)).B[i]? =(Z k).B[i]? :=by
  unfold Ak.bh at h;simp only[and_eq_true,not_eq_true']at h;cases hw:(T k).bk with
  |none=>rw[ht.cc a (by unfold Ak.bi;rw[h.1,hw];rfl)]
  |some j=>
    obtain⟨ob,e⟩:=ht.b6 a (I0 hw);have h2:=h.2;rw[hw]at h2;have b:j≠i:=λe=>Y2
    simp_all
theorem Trace.cg(ht:Trace P A 0 S Z T V){i:Nat}(a:A[i]? =some o)(h:(T i).wT=false):(Z (i+1)).T=(Z i).T:=by
  rcases ht.step i o (zero_le _) a with⟨_,hs⟩|⟨_,_,hz,_⟩
  · exact hs.cg h
  · rw[hz]
theorem Fq(ht:Trace P A 0 S Z T V){D:Nat->Bool}{t:Nat}:∀k,k<=A.size->(∀(i:Nat) (o:Oper),i<k->A[i]? =some o->o.dst=some t->D i=true)->valAt A (S 0) V D k t=lk (S k) t
  |0,_,_=>rfl
  |k+1,hk,h=>by
    have hlt:k<A.size:=hk;have a:=Array.getElem?_eq_getElem hlt;rw[ht.bs k _ (zero_le _) a,Tf,valAt,a];by_cases e:A[k].dst=some t
    · simp_all
    · rw[if_neg (by simp[e]),if_neg e];exact Fq ht k om λi o X=>h i o om
theorem LY(ht:Trace P A 0 S Z T V){D:Nat->Bool}:∀k,k<=A.size->(∀i,i<k->(T i).bi=true->D i=true)->bAt Z T D k=(Z k).B
  |0,_,_=>rfl
  |k+1,hk,h=>by
    have c:=Array.getElem?_eq_getElem (show k<A.size from hk);have E:=LY ht (D:=D) k om λi X=>h i om
    rw[bAt];cases e:(T k).bi with
    |true=>
      rw[if_pos (h k (lt_succ_self k) e)];cases d:(T k).wB with
      |true=>rw[if_pos rfl]
      |false=>
        cases eo:(T k).bk with
        |none=>unfold Ak.bi at e;rw[d,eo]at e;cases e
        |some i=>obtain⟨ob,b⟩:=ht.b6 c (I0 eo);simp only[E];rw[b];exact Fp rfl
    |false=>
      have a:=e;unfold Ak.bi at a;simp only[Bool.or_eq_false_iff]at a;have eo:(T k).bk=none:=by cases hh:(T k).bk with|none=>rfl|some _=>rw[hh]at a;simp at a
      rw[a.1,eo,E,ht.cc c e];simp
theorem LZ(ht:Trace P A 0 S Z T V){D:Nat->Bool}{i:Nat}:∀k,k<=A.size->(∀m,m<k->(T m).bh i=false->D m=true)->(bAt Z T D k)[i]? =(Z k).B[i]?
  |0,_,_=>rfl
  |k+1,hk,h=>by
    have f:=Array.getElem?_eq_getElem (show k<A.size from hk);have E:=LZ ht (D:=D) (i:=i) k om λm l=>h m om
    rw[bAt];cases e:(T k).bh i with
    |false=>
      rw[if_pos (h k (lt_succ_self k) e)];cases g:(T k).wB with
      |true=>rw[if_pos rfl]
      |false=>
        rw[if_neg Wa];cases eo:(T k).bk with
        |none=>unfold Ak.bh at e;rw[g,eo]at e;cases e
        |some j=>
          obtain⟨ob,d⟩:=ht.b6 f (I0 eo);have b:j=i:=by unfold Ak.bh at e;simp_all
          subst b;simp only;rw[d,Fp E];grind
    |true=>
      rw[ht.cx f e];have a:=e;unfold Ak.bh at a;simp only[and_eq_true,not_eq_true']at a;split
      · rw[a.1,if_neg Wa];cases eo:(T k).bk with
        |none=>exact E
        |some j=>
          have h2:=a.2;rw[eo]at h2;have c:j≠i:=λe=>Y2
          simp only;cases (Z (k+1)).B[j]? with
          |none=>exact E
          |some ob=>show ((bAt Z T D k).set j ob)[i]? =_;rw[List.getElem?_set_ne c];exact E
      · exact E
theorem L0(ht:Trace P A 0 S Z T V){D:Nat->Bool}:∀k,k<=A.size->(∀i,i<k->(T i).wT=true->D i=true)->tAt Z T D k=(Z k).T
  |0,_,_=>rfl
  |k+1,hk,h=>by
    have a:=Array.getElem?_eq_getElem (show k<A.size from hk);rw[tAt];cases e:(T k).wT with
    |true=>rw[if_pos ⟨h k (lt_succ_self k) e,rfl⟩]
    |false=>rw[if_neg Wa,L0 ht k om λi X=>h i om,ht.cg a e]
theorem Fr{D:Nat->Bool}{t j:Nat}:∀k,(∀(i:Nat) (o:Oper),j<=i->i<j+k->A[i]? =some o->o.dst=some t->D i=false)->valAt A (S 0) V D (j+k) t=valAt A (S 0) V D j t
  |0,_=>rfl
  |k+1,h=>by
    rw[show j+(k+1)=(j+k)+1 by omega,valAt,if_neg,Fr k λi o h1 h2=>h i o h1 om];rintro⟨h1,h2⟩;cases a:A[j+k]? with
    |none=>rw[a]at h2;cases h2
    |some o=>simp_all
theorem L1{D:Nat->Bool}{j:Nat}:∀k,(∀i,j<=i->i<j+k->(T i).bi=true->D i=false)->bAt Z T D (j+k)=bAt Z T D j
  |0,_=>rfl
  |k+1,h=>by
    have E:=L1 (D:=D) (j:=j) k λi h1 h2=>h i h1 om
    rw[show j+(k+1)=(j+k)+1 by omega,bAt];split
    · rename_i a;have e:(T (j+k)).bi=false:=by grind
      unfold Ak.bi at e;simp_all
    · exact E
theorem Qr{D:Nat->Bool}{i j:Nat}:∀k,(∀m,j<=m->m<j+k->(T m).bh i=false->D m=false)->(bAt Z T D (j+k))[i]? =(bAt Z T D j)[i]?
  |0,_=>rfl
  |k+1,h=>by
    have E:=Qr (D:=D) (i:=i) (j:=j) k λm h1 h2=>h m h1 om
    rw[show j+(k+1)=(j+k)+1 by omega,bAt];split
    · rename_i b;have e:(T (j+k)).bh i=true:=by grind
      unfold Ak.bh at e;simp only[and_eq_true,not_eq_true']at e;rw[e.1,if_neg Wa];cases eo:(T (j+k)).bk with
      |none=>exact E
      |some m=>
        have h2:=e.2;rw[eo]at h2;have a:m≠i:=λe=>Y2
        simp only;cases (Z (j+k+1)).B[m]? with
        |none=>exact E
        |some ob=>show ((bAt Z T D (j+k)).set m ob)[i]? =_;rw[List.getElem?_set_ne a];exact E
    · exact E
theorem L3{D:Nat->Bool}{j:Nat}:∀k,(∀i,j<=i->i<j+k->(T i).wT=true->D i=false)->tAt Z T D (j+k)=tAt Z T D j
  |0,_=>rfl
  |k+1,h=>by rw[show j+(k+1)=(j+k)+1 by omega,tAt,if_neg,L3 k λi h1 h2=>h i h1 om];grind
def iI(D:Nat->Bool)(j:Nat):Nat->Bool:=λi=>if i=j then true else D i
theorem J4{D D': Nat->Bool}{t:Nat}:∀k,(∀(i:Nat) (o:Oper),i<k->A[i]? =some o->o.dst=some t->D' i=D i)->valAt A (S 0) V D' k t=valAt A (S 0) V D k t
  |0,_=>rfl
  |k+1,h=>by
    rw[valAt,valAt,J4 k λi o X=>h i o om];cases a:A[k]? with
    |none=>simp
    |some o=>grind
theorem L4{D D': Nat->Bool}:∀k,(∀i,i<k->(T i).bi=true->D' i=D i)->bAt Z T D' k=bAt Z T D k
  |0,_=>rfl
  |k+1,h=>by
    rw[bAt,bAt,L4 k λi X=>h i om];cases e:(T k).bi with
    |true=>rw[h k (lt_succ_self k) e]
    |false=>unfold Ak.bi at e;simp_all
def U0{D D': Nat->Bool}{i j:Nat}{ob:Ob}(hb:bAt Z T D' (j+1)=(bAt Z T D (j+1)).set i ob)(b:∀m,j<m->D' m=D m):∀k,(∀m,j<m->m<j+1+k->(T m).bh i=false->D m=false)->bAt Z T D' (j+1+k)=(bAt Z T D (j+1+k)).set i ob
  |0,_=>hb
  |k+1,h=>by
    have E:=U0 hb b k λm h1 h2=>h m h1 om
    rw[show j+1+(k+1)=(j+1+k)+1 by omega,bAt,bAt,b _ om];split
    · rename_i d;have e:(T (j+1+k)).bh i=true:=by grind
      unfold Ak.bh at e;simp only[and_eq_true,not_eq_true']at e;rw[e.1,if_neg Wa,if_neg Wa];cases eo:(T (j+1+k)).bk with
      |none=>exact E
      |some m=>
        have h2:=e.2;rw[eo]at h2;have a:m≠i:=λe=>Y2
        simp only;rw[E];cases (Z (j+1+k+1)).B[m]? with
        |none=>rfl
        |some c=>exact List.set_comm _ _ (Ne.symm a)
    · exact E
theorem Qs{D D': Nat->Bool}:∀k,(∀i,i<k->(T i).wT=true->D' i=D i)->tAt Z T D' k=tAt Z T D k
  |0,_=>rfl
  |k+1,h=>by
    rw[tAt,tAt,Qs k λi X=>h i om];cases e:(T k).wT with
    |true=>rw[h k (lt_succ_self k) e]
    |false=>simp
theorem Qt(a b:Ak):a.one b=b.one a:=by
  have hb:∀i j:Nat,Nat.beq i j=Nat.beq j i:=λi j=>by
    cases h:Nat.beq i j with
    |true=>rw[Nat.eq_of_beq_eq_true h];exact(Nat.beq_refl j).symm
    |false=>
      cases h2:Nat.beq j i with
      |false=>rfl
      |true=>rw[Nat.eq_of_beq_eq_true h2,Nat.beq_refl]at h;cases h
  cases a<;>cases b<;>first|rfl|exact hb _ _
theorem L5(a b:Ak):a.bp b=b.bp a:=by unfold Ak.bp;rw[Qt a b];grind
def yX{a b:Ak}(h1:a.bi=true)(h3:b = .rb\/b.wB=true):a.bp b=true:=by
  rcases h3 with rfl|h3
  · cases a<;>first|rfl|cases h1
  · cases b<;>first|(cases h3;done)|skip
    all_goals (cases a<;>first|rfl|cases h1)
def xK{a b:Ak}{i:Nat}(h1:a.bh i=false)(h2:b = .ri i\/b = .wi i):a.bp b=true:=by
  rcases h2 with rfl|rfl<;>cases a<;>first|rfl|(cases h1;done)|skip
  all_goals (rename_i j;simp only[Ak.bh,Ak.wB,Ak.bk,Bool.not_false,Bool.true_and,Bool.not_eq_false']at h1;show Nat.beq j i=true;exact h1)
def Dt(hor:BK A T){D:Nat->Bool}(f:Bh A (D · =true)){j:Nat}{b:Oper}(hj:A[j]? =some b)(hn:D j=false)(hr:∀e∈b.after.toList,Region.binds .any e=true->D e.on=true)
    {i:Nat} {a:Oper} (X:A[i]? =some a) (O:a.apart A b=false\/b.apart A a=false\/(T i).bp (T j)=true):(i<j->D i=true)/\(j<i->D i=false):=by
  have k:∀x y:Oper,x.apart A y=true->y.apart A x=true:=by
    intro x y h;obtain⟨h1,h2,h3⟩:=Oper.apart_spec h;unfold Oper.apart;cases Y:x.dst with
    |none=>
      cases hy:y.dst with
      |none=>rfl
      |some d=>simpa using h3 d hy
    |some c=>
      cases hy:y.dst with
      |none=>simpa using h1 c Y
      |some d=>grind
  refine⟨λhlt=> ?_,λhlt=> ?_⟩
  · rcases hor.pair _ f i j a b X hj hlt hr with⟨h1,h2⟩|h1
    · simp_all
    · exact h1
  · cases g:D i with
    |false=>rfl
    |true=>
      rcases hor.pair _ f j i b a hj X hlt (λe he hb=>f i a g X e he hb) with⟨h1,h2⟩|h1
      · rcases O with h|h|h
        · simp_all
        · simp_all
        · rw[L5,h2]at h;cases h
      · simp_all
structure CT(ht:Trace P A 0 S Z T V)(N:Nat)(D:List Deferred)(g0:Gh)(w0:World)(L:Nat->Bool)(g:Gh)(w:World)(a:Act):Prop where
  K:Bh A (L · =true)
  size:a.tmps.size=N
  defers:a.defers=D
  ext:Ar g0 w0 g w
  inv:Inv g ⟨bAt Z T L A.size,tAt Z T L A.size⟩ w
  bs:∀t,Ab g w (valAt A (S 0) V L A.size t) (a.tmps.getD t undef)
theorem Hr{t:Nat}(h:Operand.tmp t∈o.op.operands.toList):t∈o.looksAt A:=by grind[Oper.looksAt]
theorem J5{j:Nat}{a:Bool}{d:Nat}(c:o.guard=some (j,a))(b:(A[j]?).bind (·.dst)=some d):d∈o.looksAt A:=by grind[Oper.looksAt]
def vO{a b:Oper}{t:Nat}(X:a.dst=some t)(hj:t∈b.looksAt A):a.apart A b=false:=by
  cases h:a.apart A b with
  |false=>rfl
  |true=>exact absurd hj ((Oper.apart_spec h).1 t X)
def I1{a b:Oper}{t:Nat}(X:a.dst=some t)(hj:b.dst=some t):a.apart A b=false:=by
  cases h:a.apart A b with
  |false=>rfl
  |true=>exact absurd hj ((Oper.apart_spec h).2.1 t X)
def Qu{ht:Trace P A 0 S Z T V}(hor:BK A T){N:Nat}{D:List Deferred}{g0:Gh}(hN:∀d,(∃o'∈ A.toList,o'.dst=some d)->d<N)
    {L:Nat->Bool} {g:Gh} {w:World} (p:CT ht N D g0 w0 L g w a) {j:Nat} {oj:Oper} (hj:A[j]? =some oj) (hn:L j=false)
    (hr:∀e∈oj.after.toList,Region.binds .any e=true->L e.on=true) {K:Act->World->Prop}
    (hK:∀a' w' g', CT ht N D g0 w0 (iI L j) g' w' a'-> K a' w'):wpOp P A Q j K a w:=by
  have ar:j<A.size:=(Array.getElem?_eq_some_iff.1 hj).1;have q:j+(A.size-j)=A.size:=om
  have a6:∀t,t∈oj.looksAt A->valAt A (S 0) V L A.size t=lk (S j) t:=by
    intro t ae;rw[<-q,Fr (A.size-j),Fq ht j om]
    · intro i o X ho z
      exact(Dt hor p.K hj hn hr ho (.inl (vO z ae))).1 X
    · intro i o h1 h2 ho z
      by_cases e:i=j
      · subst e;exact hn
      · exact(Dt hor p.K hj hn hr ho (.inl (vO z ae))).2 om
  have aa:(T j).wT=true->(T j).rT=true:=by cases T j<;>intro h<;>first|rfl|cases h
  have r:∀i,(T i).wT=true->(T j).rT=true->(T i).bp (T j)=true:=by intro i h1 h2;unfold Ak.bp;rw[h1,h2];simp
  have bj:(T j = .rb\/(T j).wB=true)->bAt Z T L A.size=(Z j).B:=by
    intro hb;rw[<-q,L1 (A.size-j),LY ht j om]
    · intro i X hw
      exact(Dt hor p.K hj hn hr (Array.getElem?_eq_getElem (show i<A.size by omega)) (.inr (.inr (yX hw hb)))).1 X
    · intro i h1 h2 hw
      by_cases e:i=j
      · subst e;exact hn
      · exact(Dt hor p.K hj hn hr (Array.getElem?_eq_getElem (show i<A.size by omega)) (.inr (.inr (yX hw hb)))).2 om
  have bi:∀i,(T j = .ri i\/T j = .wi i)->(bAt Z T L A.size)[i]? =(Z j).B[i]? :=by
    intro i hb;rw[<-q,Qr (A.size-j),LZ ht j om]
    · intro m X hw
      exact(Dt hor p.K hj hn hr (Array.getElem?_eq_getElem (show m<A.size by omega)) (.inr (.inr (xK hw hb)))).1 X
    · intro m h1 h2 hw
      by_cases e:m=j
      · subst e;exact hn
      · exact(Dt hor p.K hj hn hr (Array.getElem?_eq_getElem (show m<A.size by omega)) (.inr (.inr (xK hw hb)))).2 om
  have tj:(T j).rT=true->tAt Z T L A.size=(Z j).T:=by
    intro hb;rw[<-q,L3 (A.size-j),L0 ht j om]
    · intro i X hw
      exact(Dt hor p.K hj hn hr (Array.getElem?_eq_getElem (show i<A.size by omega)) (.inr (.inr (r i hw hb)))).1 X
    · intro i h1 h2 hw
      by_cases e:i=j
      · subst e;exact hn
      · exact(Dt hor p.K hj hn hr (Array.getElem?_eq_getElem (show i<A.size by omega)) (.inr (.inr (r i hw hb)))).2 om
  have a2:(T j).wB=true->bAt Z T (iI L j) A.size=(Z (j+1)).B:=by intro hw;rw[show A.size=(j+1)+(A.size-(j+1)) by omega,L1 (A.size-(j+1)),bAt,if_pos (by simp[iI]),if_pos hw];intro i h1 h2 y;have:=(Dt hor p.K hj hn hr (Array.getElem?_eq_getElem (show i<A.size by omega)) (.inr (.inr (yX y (.inr hw))))).2 om;simp[iI,show i≠j by omega,this]
  have n:(T j).bi=false->bAt Z T (iI L j) A.size=bAt Z T L A.size:=by
    intro hw;refine L4 _ λi _ y=> ?_
    have:i≠j:=λe=>by rw[e,hw]at y;cases y
    simp[iI,this]
  have a7:∀(i:Nat) (ob:Ob),T j = .wi i->(Z (j+1)).B=(Z j).B.set i ob->bAt Z T (iI L j) A.size=(bAt Z T L A.size).set i ob:=by
    intro i ob hw hz;have ah:(bAt Z T L j)[i]? =(Z j).B[i]? :=LZ ht j om λm X a9=>(Dt hor p.K hj hn hr (Array.getElem?_eq_getElem (show m<A.size by omega)) (.inr (.inr (xK a9 (.inr hw))))).1 X
    have h0:bAt Z T (iI L j) (j+1)=(bAt Z T L (j+1)).set i ob:=by rw[bAt,bAt,if_pos (by simp[iI]),hw,hn,if_neg (by simp[Ak.wB]),if_neg Wa];simp only[Ak.bk];rw[L4 (D:=L) (D':= iI L j) j λm ai _=>by simp[iI,show m≠j by omega],hz];exact Fp ah
    rw[show A.size=(j+1)+(A.size-(j+1)) by omega];refine U0 h0 (λm ai=>by simp[iI,show m≠j by omega]) _ λm h1 h2 a9=> ?_
    exact(Dt hor p.K hj hn hr (Array.getElem?_eq_getElem (show m<A.size by omega)) (.inr (.inr (xK a9 (.inr hw))))).2 om
  have a5:tAt Z T (iI L j) A.size=if (T j).wT=true then (Z (j+1)).T else tAt Z T L A.size:=by
    split
    · rename_i hw
      rw[show A.size=(j+1)+(A.size-(j+1)) by omega,L3 (A.size-(j+1)),tAt,if_pos ⟨by simp[iI],hw⟩];intro i h1 h2 y;have:=(Dt hor p.K hj hn hr (Array.getElem?_eq_getElem (show i<A.size by omega)) (.inr (.inr (r i y (aa hw))))).2 om;simp[iI,show i≠j by omega,this]
    · rename_i hw
      refine Qs _ λi _ y=> ?_
      have:i≠j:=λe=>hw (e▸y)
      simp[iI,this]
  have af:∀t,valAt A (S 0) V (iI L j) A.size t=if oj.dst=some t then V j else valAt A (S 0) V L A.size t:=by
    intro t;split
    · rename_i z
      rw[show A.size=(j+1)+(A.size-(j+1)) by omega,Fr (A.size-(j+1)),valAt,hj,if_pos ⟨by simp[iI],z⟩];intro i o h1 h2 ho a8;have:=(Dt hor p.K hj hn hr ho (.inl (I1 a8 z))).2 om;simp[iI,show i≠j by omega,this]
    · rename_i z
      refine J4 _ λi o _ ho a8=> ?_
      have:i≠j:=λe=>by subst e;rw[hj]at ho;cases ho;exact z a8
      simp[iI,this]
  have ab:Bh A (iI L j · =true):=by
    intro i o X ho e he hb;have ac:L e.on=true->iI L j e.on=true:=by intro h;unfold iI;split<;>simp_all
    by_cases e': i=j
    · subst e'; rw[hj]at ho;cases ho;exact ac (hr e he hb)
    · have:L i=true:=by simpa [iI,e']using X
      exact ac (p.K i o this ho e he hb)
  have fin:∀(u:Value) (w': World) (g': Gh),Ar g w g' w'-> Inv g' ⟨bAt Z T (iI L j) A.size,tAt Z T (iI L j) A.size⟩ w'-> Ab g' w' (V j) u->K (a.put oj.dst u) w':= by
    intro u w' g' Y X hv;refine hK _ _ g' ⟨ab, ?_, ?_,p.ext.trans Y,X,λt=> ?_⟩
    · cases z:oj.dst with
      |none=>exact p.size
      |some d=>simpa [Act.put]using p.size
    · cases z:oj.dst<;>exact p.defers
    · rw[af t]
      have a4:=Ab.mono Y.le _ _ (p.bs t);cases z:oj.dst with
      |none=>simpa [Act.put]using a4
      |some d=>
        have hlt:d<a.tmps.size:=by rw[p.size];exact hN d ⟨oj,by simpa using Array.mem_of_getElem? hj,z⟩
        by_cases e:d=t
        · subst e;simpa [Act.put,hlt]using hv
        · simpa [Act.put,Array.getElem?_setIfInBounds,e]using a4
  unfold wpOp;rw[hj];have a3:∀b,A6 A (S j) oj b->Region.wanted oj (yielded A a.tmps)=b:=λb hb=>
    HH (g:=g) (w:=w) hb (λd z=>by rw[p.size];exact hN d z) (λi ao d hg z=>by rw[<-a6 d (J5 hg z)];exact p.bs d)
  have ad:∀x,x∈oj.op.operands.toList->Ab g w (ev (S j) x) (a.eval x):=by
    intro x Y;cases x with
    |tmp t=>show Ab g w (lk (S j) t) _;rw[<-a6 t (Hr Y)];exact p.bs t
    |const v=>exact kR g w v
    |global i=>exact Fx p.inv.gl i
    |func f=>exact⟨#[], #[],rfl,rfl,rfl⟩
  rcases ht.step j oj (zero_le _) hj with⟨hw,k⟩|⟨hw,hv,hz,htag⟩
  · simp only[a3 true hw,if_true]
    refine .inl ?_;have l:∀σ', AS P oj (S j) ⟨bAt Z T L A.size,tAt Z T L A.size⟩ σ' (V j)->σ'= ⟨bAt Z T (iI L j) A.size,tAt Z T (iI L j) A.size⟩->oj.wp P a w K Q:=by intro σ' hs e;subst e;exact hs g w a K Q p.inv ad fin
    rw[a5]at l;cases c:T j with
    |pure=>rw[n W9]at l;rw[c]at k l;exact l _ (k.2 _) X0
    |rb=>have hb:=bj (.inl c);rw[n W9]at l;rw[c]at k l;rw[hb]at l;exact l _ (k.2 _) X0
    |wb=>have hb:=bj (.inr W9);rw[a2 W9]at l;rw[c]at k l;rw[hb]at l;exact l _ (k.2 _) X0
    |tk=>have hb:=tj W9;rw[n W9]at l;rw[c]at k l;rw[hb]at l;exact l _ (k.2 _) X0
    |rt=>have hb:=tj W9;rw[n W9]at l;rw[c]at k l;rw[hb]at l;exact l _ (k.2 _) X0
    |all=>have hb:=bj (.inr W9);have hb':= tj W9;rw[a2 W9]at l;rw[c]at k l;rw[hb,hb']at l;exact l _ k X0
    |ri i=>have hb:=bi i (.inl c);rw[n W9]at l;rw[c]at k l;exact l _ (k.2 _ _ hb) X0
    |wi i=>have hb:=bi i (.inr c);rw[c]at k;obtain⟨ob,hz,k⟩:=k;rw[a7 i ob c (by rw[hz])]at l;rw[c]at l;exact l _ (k _ _ hb) X0
  · simp only[a3 false hw,Bool.false_eq_true,if_false]
    refine fin undef w g (fD g w) ?_ (by rw[hv];exact⟨#[],rfl,rfl⟩);rw[n (by rw[htag];rfl),a5,htag];simpa [Ak.wT]using p.inv
def Tg{ht:Trace P A 0 S Z T V}(hor:BK A T){N:Nat}{D:List Deferred}{g0:Gh}(y:∀d,(∃z∈A.toList,z.dst=some d)->d<N)
 (hQ:∀a w g,CT ht N D g0 w0 (λi=>decide (i<A.size)) g w a->Q .normal a w):
    ∀(b:Nat) (listed:Array Bool) (g:Gh) (w:World) (a:Act),listed.size=A.size->(List.range A.size).countP (λi => !listed.getD i true)=b->
      CT ht N D g0 w0 (λi=>listed.getD i false) g w a->wpAny P .any A Q b listed a w:=by
  have done:∀(listed:Array Bool) (g:Gh) (w:World) (a:Act),listed.size=A.size->(∀i,i<A.size->listed.getD i true=true)->CT ht N D g0 w0 (λi=>listed.getD i false) g w a->Q .normal a w:=by
    intro listed g w a hs c o;have:(λi=>listed.getD i false)=λi=>decide (i<A.size):=WN
    grind
  have v:∀(listed:Array Bool),listed.size=A.size->Region.ready .any A listed=[]->∀i,i<A.size->listed.getD i true=true:=by
    intro listed hs hr i;induction i using Nat.strongRecOn with
    |ind i E=>
      intro X;cases hl:listed.getD i true with
      |true=>rfl
      |false=>
        have p:=Array.getElem?_eq_getElem X;have l:i∈Region.ready .any A listed:=by
          unfold Region.ready;rw[List.mem_filter];refine⟨mem_range.2 X, ?_⟩;rw[hl,p];simp only[Bool.not_false,Bool.true_and,Option.map_some,getD_some];rw[<-Array.all_toList,all_eq_true];intro e he;cases hb:Region.binds .any e with
          |false=>rfl
          |true=>have hlt:=hor.dh i _ p e he hb;have:=E e.on hlt om;simp only[Array.getD_eq_getD_getElem?, Array.getElem?_eq_getElem (show e.on<listed.size by omega),getD_some]at this ⊢;simp[this]
        rw[hr]at l;cases l
  intro b;induction b with
  |zero=>
    intro listed g w a hs O o;have c:∀i,i<A.size->listed.getD i true=true:=by intro i X;rw[List.countP_eq_zero]at O;simpa using O i (mem_range.2 X)
    refine⟨?_,done listed g w a hs c o⟩;unfold Region.ready;rw[List.filter_eq_nil_iff];intro i X;rw[c i (mem_range.1 X)];simp
  |succ b E=>
    intro listed g w a hs O o;refine⟨λhr=>done listed g w a hs (v listed hs hr) o,λj m=> ?_⟩;unfold Region.ready at m;rw[List.mem_filter,mem_range]at m;obtain⟨hj,f⟩:=m;have p:=Array.getElem?_eq_getElem hj;rw[p]at f;simp only[and_eq_true,Option.map_some,getD_some]at f;rw[<-Array.all_toList,all_eq_true]at f;have k:j<listed.size:=om
    have hn:listed[j]=false:=by simpa [k]using f.1
    refine Qu hor y o p (by simp[k,hn]) (λe he hb=> ?_) (λx w' g' q=>E _ g' w' x (by simpa using hs) ?_ ?_)
    · have:=f.2 e he
      rw[hb]at this;simpa using this
    · have u:∀(n:Nat),j<n->n<=A.size->(List.range n).countP (λi => !(listed.setIfInBounds j true).getD i true)+1=(List.range n).countP (λi => !listed.getD i true):=by
        intro n;induction n with
        |zero=>intro h;omega
        |succ n t=>
          intro h1 h2;rw[List.range_succ,List.countP_append,List.countP_append];by_cases e:j=n
          · subst e
            have hsame:(List.range j).countP (λi => !(listed.setIfInBounds j true).getD i true)=(List.range j).countP (λi => !listed.getD i true):=by
              apply List.countP_congr;intro i X;have:j≠i:=WJ
              simp[this]
            rw[hsame];simp[k,hn]
          · have:=t om om
            have r:(listed.setIfInBounds j true).getD n true=listed.getD n true:=by simp[e]
            simp only[List.countP_cons,List.countP_nil,r];omega
      have:=u A.size hj (le_refl _);omega
    · have:(λi=>(listed.setIfInBounds j true).getD i false)=iI (λi=>listed.getD i false) j:=by
        funext i
        unfold iI;by_cases e:i=j
        · subst e;simp[k]
        · simp[Ne.symm e,e]
      rw[this];exact q
end run
def O2{id:Nat}{K:AX->AE->St->Prop}{N:Nat}{D:List Deferred}{g:Gh}{H:St}{s:AE}{w:World}(f:P.follows .mixedOrders=true)
    (p:∀d,(∃u∈A.toList,u.dst=some d)->d<N) (ha:a.tmps.size=N) (r:a.defers=D) (X:Inv g H w) (hs:A3 g w s a.tmps)
    (n:∀s' σ' g' w' (b:Act),b.tmps.size=N->b.defers=D->Ar g w g' w'-> Inv g' σ' w'-> A3 g' w' s' b.tmps->K .normal s' σ'-> Q .normal b w')
    (h:AD P A true K A.toList [] s H):(Code.region id A true).wp P Q a w:=by
  obtain⟨S,Z,T,V,ht,hS,q,c,l⟩:=J3 A.toList 0 [] s H Wa h;have hor:BK A T:=LX XV;refine wp_region_any f (Tg (ht:=ht) (g0:=g) (w0:=w) (D:=D) (N:=N) hor p (λb w' g' e=> ?_) A.size _ g _ a Wa ?_ ?_)
  · simp only[Nat.zero_add,Array.length_toList]at c
    refine n (S A.size) (Z A.size) g' w' b e.size e.defers e.ext ?_ (λt=> ?_) c
    · have:=e.inv
      rw[LY ht A.size (le_refl _) (λi X _=>Xh),L0 ht A.size (le_refl _) (λi X _=>Xh)]at this;exact this
    · have:=e.bs t
      rwa [Fq ht A.size (le_refl _) (λi o X _ _=>Xh)]at this
  · rw[List.countP_eq_length.2]
    · simp
    · simp_all
  · have hf:(λi=>(Array.replicate A.size false).getD i false)=λ_=>false:=by
      funext i
      by_cases h:i<A.size<;>simp[h]
    rw[hf];have hb:∀k,bAt Z T (λ_=>false) k=(Z 0).B:=by intro k;induction k with|zero=>rfl|succ k E=>rw[bAt,if_neg Wa,E]
    have m:∀k,tAt Z T (λ_=>false) k=(Z 0).T:=by intro k;induction k with|zero=>rfl|succ k E=>rw[tAt,if_neg Wa,E]
    have hv:∀k t,valAt A (S 0) V (λ_=>false) k t=lk (S 0) t:=by intro k t;induction k with|zero=>rfl|succ k E=>rw[valAt,if_neg Wa,E]
    refine⟨λj o h=>Wm,ha,r,Ar.drew g w _, ?_,λt=> ?_⟩
    · rw[hb,m,q]
      exact X.drew _
    · rw[hv,hS]
      exact Ab.mono (Ar.drew g w _).le _ _ (hs t)
end
def aB4(g:Gh)(w:World):AX->Exit->Prop
  | .normal,e=>e = .normal
  | .exit id,e=>e = .exit id
  | .goto l,e=>e = .goto l
  | .ret,e=>e = .ret
  | .pan x,e=>∃u,e = .panic [{ v:=u,recovered:=false }]/\Ab g w x u
mutual
def AV.K:AV->Bool
  | .ptr _ _ | .map _ | .iter _ | .Y _ _ _ _ _ | .an _ _ _ _ _=>false
  | .view xs _=>aB xs
  | .agg cs=>aB cs
  | .tup cs=>aB cs
  | .slice xs t=>(match t with | .own _ _=>false|_=>true)&&aB xs
  | .ab x=>x.K
  | .fn _ fs cs=>aB fs&&aB cs
  | .iface _ x=>x.K
  |_=>true
def aB:List AV->Bool
  |[]=>true
  |x::xs=>x.K&&aB xs
end
mutual
def AV.aa(n m:Nat):AV->Bool
  | .ptr i _=>Nat.blt i n
  | .map i=>Nat.blt i n
  | .iter i=>Nat.blt i n
  | .view xs _=>aE n m xs
  | .Y k _ _ _ _=>Nat.blt k m
  | .an k _ _ _ _=>Nat.blt k m
  | .agg cs=>aE n m cs
  | .tup cs=>aE n m cs
  | .slice xs t=>(match t with | .own k _=>Nat.blt k m|_=>true)&&aE n m xs
  | .ab x=>x.aa n m
  | .fn _ fs cs=>aE n m fs&&aE n m cs
  | .iface _ x=>x.aa n m
  |_=>true
def aE(n m:Nat):List AV->Bool
  |[]=>true
  |x::xs=>x.aa n m&&aE n m xs
end
mutual
theorem aF(n m:Nat):∀x:AV,x.K=true->x.aa n m=true
  | .undef,_=>rfl
  | .bool _,_=>rfl
  | .int _ _,_=>rfl
  | .str _,_=>rfl
  | .agg cs,h=>aC n m cs h
  | .tup cs,h=>aC n m cs h
  | .slice xs t,h=>by
    simp only[AV.K,and_eq_true]at h;simp only[AV.aa,and_eq_true];refine⟨?_,aC n m xs h.2⟩;cases t with
    |own k z=>exact absurd h.1 Wa
    |no=>rfl
    |full=>rfl
    |nil=>rfl
    |nn=>rfl
  | .ptr _ _,h=>by cases h
  | .ab x,h=>aF n m x h
  | .nilp,_=>rfl
  | .praw _,_=>rfl
  | .fn _ a cs,h=>by simp only[AV.K,and_eq_true]at h;simp only[AV.aa,and_eq_true];exact⟨aC n m a h.1,aC n m cs h.2⟩
  | .nilfn,_=>rfl
  | .iface _ x,h=>aF n m x h
  | .nili,_=>rfl
  | .map _,h=>by cases h
  | .nilmap,_=>rfl
  | .iter _,h=>by cases h
  | .view xs _,h=>aC n m xs h
  | .Y _ _ _ _ _,h=>by cases h
  | .an _ _ _ _ _,h=>Wu
theorem aC(n m:Nat):∀xs:List AV,aB xs=true->aE n m xs=true
  |[],_=>rfl
  |x::xs,h=>by simp only[aB,and_eq_true]at h;simp only[aE,and_eq_true];exact⟨aF n m x h.1,aC n m xs h.2⟩
end
def Gh.bd(g:Gh)(n m:Nat):Gh:=⟨g.bx.take n,g.tk.take m,g.im⟩
mutual
theorem Ab.aa{g:Gh}{w:World}:∀(x:AV) (v:Value),x.aa n m=true->Ab g w x v->Ab (g.bd n m) w x v
  | .undef,_,_,_=>trivial
  | .bool _,_,_,h=>h
  | .int _ _,_,_,h=>h
  | .str _,_,_,h=>h
  | .agg cs,_,O,⟨vs,e,hl,h1⟩=>⟨vs,e,AL.aa cs _ O hl,h1⟩
  | .tup cs,_,O,⟨vs,e,hl⟩=>⟨vs,e,AL.aa cs _ O hl⟩
  | .slice xs t,_,O,⟨a,cap,sz,Vs,e,h1,h2,h3,h4,d,c⟩=>by
    simp only[AV.aa,and_eq_true]at O;refine⟨a,cap,sz,Vs,e,h1,h2, ?_,AL.aa xs _ O.2 h4,d,c⟩;cases t with
    |own k z=>obtain⟨e1,r,f,j⟩:=h3;have hk:k<m:=le_of_ble_eq_true O.1;exact⟨e1,r,by show (g.tk.take m)[k]? =_;rw[getElem?_take_of_lt hk];exact f,j⟩
    |no=>exact h3
    |full=>exact h3
    |nil=>exact h3
    |nn=>exact h3
  | .ptr i _,_,O,⟨b,h1,e⟩=>⟨b,by show (g.bx.take n)[i]? =_;rw[getElem?_take_of_lt (le_of_ble_eq_true O)];exact h1,e⟩
  | .ab x,_,O,⟨b,o,V,e,h1,h2⟩=>⟨b,o,V,e,h1,Ab.aa x _ O h2⟩
  | .nilp,_,_,h=>h
  | .praw _,_,_,h=>h
  | .fn _ l cs,_,O,⟨vs,ws,e,h1,h2⟩=>by simp only[AV.aa,and_eq_true]at O;exact⟨vs,ws,e,AL.aa l _ O.1 h1,AL.aa cs _ O.2 h2⟩
  | .nilfn,_,_,h=>h
  | .iface _ x,_,O,⟨u,e,h1⟩=>⟨u,e,Ab.aa x _ O h1⟩
  | .nili,_,_,h=>h
  | .map i,_,O,⟨b,h1,e⟩=>⟨b,by show (g.bx.take n)[i]? =_;rw[getElem?_take_of_lt (le_of_ble_eq_true O)];exact h1,e⟩
  | .nilmap,_,_,h=>h
  | .iter i,_,O,⟨b,h1,e⟩=>⟨b,by show (g.bx.take n)[i]? =_;rw[getElem?_take_of_lt (le_of_ble_eq_true O)];exact h1,e⟩
  | .view xs _,_,O,⟨a,cap,sz,Vs,e,h0,h1,h2,h4,d,c⟩=>⟨a,cap,sz,Vs,e,h0,h1,h2,AL.aa xs _ O h4,d,c⟩
  | .Y k _ _ _ _,_,O,⟨a,cap,e,h1,h2,h3,h4,d,r,hr,c⟩=>⟨a,cap,e,h1,h2,h3,h4,d,r,by show (g.tk.take m)[k]? =_;rw[getElem?_take_of_lt (le_of_ble_eq_true O)];exact hr,c⟩
  | .an k _ _ _ _,_,O,⟨b,o,e,hj,r,hr,c⟩=>⟨b,o,e,hj,r,by show (g.tk.take m)[k]? =_;rw[getElem?_take_of_lt (le_of_ble_eq_true O)];exact hr,c⟩
theorem AL.aa{g:Gh}{w:World}:∀(cs:List AV) (vs:List Value),aE n m cs=true->AL g w cs vs->AL (g.bd n m) w cs vs
  |[],_,_,h=>h
  |c::cs,_,O,⟨v,C,e,h1,h2⟩=>by simp only[aE,and_eq_true]at O;exact⟨v,C,e,Ab.aa c _ O.1 h1,AL.aa cs _ O.2 h2⟩
end
def oP(n m:Nat):List (AV×AV)->Bool
  |[]=>true
  |(k,v)::l=>k.aa n m&&v.aa n m&&oP n m l
def Ob.aa(n m:Nat):Ob->Bool
  | .cells cs=>aE n m cs
  | .map es=>oP n m es
  | .iter _ _=>true
def aQ(n m:Nat):List Ob->Bool
  |[]=>true
  |o::B=>o.aa n m&&aQ n m B
def aM(n m:Nat):AE->Bool
  |[]=>true
  |(_,v)::s=>v.aa n m&&aM n m s
def Tok.aa(n m:Nat):Tok->Bool
  | .len _=>true
  | .Y xs=>aE n m xs
def aL(n m:Nat):List Tok->Bool
  |[]=>true
  |t::T=>t.aa n m&&aL n m T
def yU{n m:Nat}:∀ {T:List Tok} {i:Nat} {t:Tok},aL n m T=true->T[i]? =some t->t.aa n m=true
  |o::B,0,ob,h,X=>by simp only[aL,and_eq_true]at h;simp at X;subst X;exact h.1
  |o::B,i+1,ob,h,X=>by simp only[aL,and_eq_true]at h;exact yU h.2 Xh
  |[],i,ob,_,X=>XI
theorem Au.aa{g:Gh}{w:World}:∀(l:List (AV×AV)) (es:List MapEntry),oP n m l=true->Au g w l es->Au (g.bd n m) w l es
  |[],_,_,h=>h
  |(k,v)::l,_,hb,⟨e,C,he,h1,h2,h3⟩=>by simp only[oP,and_eq_true]at hb;exact⟨e,C,he,Ab.aa k _ hb.1.1 h1,Ab.aa v _ hb.1.2 h2,Au.aa l _ hb.2 h3⟩
theorem BJ.aa{g:Gh}{w:World}{b:Nat}{ob:Ob}(h:ob.aa n m=true)(d:BJ g w b ob):BJ (g.bd n m) w b ob:=by
  cases ob with
  |cells cs=>obtain⟨J,R,h1,h2,h3⟩:=d;exact⟨J,R,h1,AL.aa cs _ h h2,h3⟩
  |map es=>obtain⟨c,a,h1,h2⟩:=d;exact⟨c,a,h1,Au.aa es _ h h2⟩
  |iter s p=>exact d
theorem A7.aa{g:Gh}{w:World}{r:A9}{t:Tok}(h:t.aa n m=true)(a:A7 g w r t):A7 (g.bd n m) w r t:=by
  cases t with
  |len n=>exact a
  |Y xs=>obtain⟨h1,h2,h3,Vs,h4,b⟩:=a;exact⟨h1,h2,h3,Vs,AL.aa xs _ h h4,b⟩
def yV{n m:Nat}:∀ {B:List Ob} {i:Nat} {ob:Ob},aQ n m B=true->B[i]? =some ob->ob.aa n m=true
  |o::B,0,ob,h,X=>by simp only[aQ,and_eq_true]at h;simp at X;subst X;exact h.1
  |o::B,i+1,ob,h,X=>by simp only[aQ,and_eq_true]at h;exact yV h.2 Xh
  |[],i,ob,_,X=>XI
def rP{n m:Nat}:∀ {s:AE},aM n m s=true->∀t,(lk s t).aa n m=true
  |[],_,_=>rfl
  |(t', v)::s,h,t=>by
    simp only[aM,and_eq_true]at h;unfold lk;cases Nat.beq t' t with
    |true=>exact h.1
    |false=>exact rP h.2 t
def pF{g:Gh}{H:St}{w:World}(X:Inv g H w)(e:aQ n m (H.B.take n)=true)(hT:aL n m (H.T.take m)=true):Inv (g.bd n m) ⟨H.B.take n,H.T.take m⟩ w where
  lenB:=by simp[Gh.bd,X.lenB]
  lenT:=by simp[Gh.bd,X.lenT]
  ob i b ob h1 h2:=by
    have e1:g.bx[i]? =some b:=by
      have hlt:i<n:=by have:=(List.getElem?_eq_some_iff.1 h1).1;simp[Gh.bd]at this;omega
      rw[<-h1];exact(getElem?_take_of_lt hlt).symm
    have c:H.B[i]? =some ob:=WN
    exact(X.ob i b ob e1 c).aa (yV e h2)
  nodup:=X.nodup.sublist (List.take_sublist _ _);noim b hb o:=X.noim b (List.mem_of_mem_take hb) o;tok k x r h1 h2:=by
    have hlt:k<m:=by have:=(List.getElem?_eq_some_iff.1 h1).1;simp[Gh.bd]at this;omega
    refine A7.aa (yU hT h2) ?_;exact X.tok k x r (by rw[<-h1];exact(getElem?_take_of_lt hlt).symm) (by rw[<-h2];exact(getElem?_take_of_lt hlt).symm)
  tkz k r h1 b o ho:=by
    have hlt:k<m:=by have:=(List.getElem?_eq_some_iff.1 h1).1;simp[Gh.bd]at this;omega
    obtain⟨e1,c,d⟩:=X.tkz k r (by rw[<-h1];exact(getElem?_take_of_lt hlt).symm) b o ho;exact⟨e1,λhb=>c (List.mem_of_mem_take hb),d⟩
  tkd k k' r r' hne h1 h2 b o:=by
    have hlt:k<m:=by have:=(List.getElem?_eq_some_iff.1 h1).1;simp[Gh.bd]at this;omega
    have a:k'< m:=by have:=(List.getElem?_eq_some_iff.1 h2).1;simp[Gh.bd]at this;omega
    exact X.tkd k k' r r' hne (by rw[<-h1];exact(getElem?_take_of_lt hlt).symm) (by rw[<-h2];exact(getElem?_take_of_lt a).symm) b o
  imlt:=X.imlt;gl:=X.gl
def rQ{g0 g:Gh}{w:World}(h:Ar g0 w0 g w)(hn:g0.bx.length<=n)(a:g0.tk.length<=m):Ar g0 w0 (g.bd n m) w where
  le:=⟨h.le.im,λi b X=>by
      show (g.bx.take n)[i]? =_;rw[getElem?_take_of_lt (by have:=(List.getElem?_eq_some_iff.1 X).1;omega)];exact h.le.bx i b X,λk r hk=>by
      obtain⟨r', h1,h2⟩:=h.le.tk k r hk;refine⟨r', ?_,h2⟩;show (g.tk.take m)[k]? =_;rw[getElem?_take_of_lt (by have:=(List.getElem?_eq_some_iff.1 hk).1;omega)];exact h1⟩
  size:=h.size;os:=h.os;tape:=h.tape;output:=h.output;fr:=h.fr;frc:=h.frc;newim:=h.newim;newbx b hb:=h.newbx b (List.mem_of_mem_take hb);newz k r hk b o ho:=by
    have hlt:k<m:=by have:=(List.getElem?_eq_some_iff.1 hk).1;simp[Gh.bd]at this;omega
    exact h.newz k r (by rw[<-hk];exact(getElem?_take_of_lt hlt).symm) b o ho
mutual
theorem pP{im:Nat->Nat->Prop}{bx c:List Nat}{tk g:List A9}{w:World}:∀(x:AV) (v:Value),x.K=true->Ab ⟨bx,tk,im⟩ w x v->Ab ⟨c,g,im⟩ w x v
  | .undef,_,_,_=>trivial
  | .bool _,_,_,h=>h
  | .int _ _,_,_,h=>h
  | .str _,_,_,h=>h
  | .agg cs,_,O,⟨vs,e,hl,h1⟩=>⟨vs,e,j6 cs _ O hl,h1⟩
  | .tup cs,_,O,⟨vs,e,hl⟩=>⟨vs,e,j6 cs _ O hl⟩
  | .slice xs t,_,O,⟨a,cap,sz,Vs,e,h1,h2,h3,h4,d,f⟩=>by
    simp only[AV.K,and_eq_true]at O;refine⟨a,cap,sz,Vs,e,h1,h2, ?_,j6 xs _ O.2 h4,d,f⟩;cases t with
    |own k z=>exact absurd O.1 Wa
    |no=>exact h3
    |full=>exact h3
    |nil=>exact h3
    |nn=>exact h3
  | .ptr _ _,_,O,_=>by cases O
  | .ab x,_,O,⟨b,o,V,e,h1,h2⟩=>⟨b,o,V,e,h1,pP x _ O h2⟩
  | .nilp,_,_,h=>h
  | .praw _,_,_,h=>h
  | .fn _ i cs,_,O,⟨vs,ws,e,h1,h2⟩=>by simp only[AV.K,and_eq_true]at O;exact⟨vs,ws,e,j6 i _ O.1 h1,j6 cs _ O.2 h2⟩
  | .nilfn,_,_,h=>h
  | .iface _ x,_,O,⟨u,e,h1⟩=>⟨u,e,pP x _ O h1⟩
  | .nili,_,_,h=>h
  | .map _,_,O,_=>by cases O
  | .nilmap,_,_,h=>h
  | .iter _,_,O,_=>by cases O
  | .view xs _,_,O,⟨a,cap,sz,Vs,e,h0,h1,h2,h4,d,f⟩=>⟨a,cap,sz,Vs,e,h0,h1,h2,j6 xs _ O h4,d,f⟩
  | .Y _ _ _ _ _,_,O,_=>by cases O
  | .an _ _ _ _ _,_,O,_=>by cases O
theorem j6{im:Nat->Nat->Prop}{bx a:List Nat}{tk b:List A9}{w:World}:∀(cs:List AV) (vs:List Value),aB cs=true->AL ⟨bx,tk,im⟩ w cs vs->AL ⟨a,b,im⟩ w cs vs
  |[],_,_,h=>h
  |c::cs,_,O,⟨v,C,e,h1,h2⟩=>by simp only[aB,and_eq_true]at O;exact⟨v,C,e,pP c _ O.1 h1,j6 cs _ O.2 h2⟩
end
def Bx(g0:Gh)(w0:World)(N:Nat)(D:List Deferred)(K:AX->AE->St->Prop):Exit->Act->World->Prop:=λe a w=>
  ∃ae s H g,aB4 g w ae e/\a.tmps.size=N/\a.defers=D/\Ar g0 w0 g w/\Inv g H w/\A3 g w s a.tmps/\K ae s H
def AB(P:Program)(N:Nat)(D:List Deferred)(c:Code)(K:AX->AE->St->Prop)(s:AE)(H:St):Prop:=
  ∀(g:Gh) (w:World) (a:Act),Inv g H w->A3 g w s a.tmps->a.tmps.size=N->a.defers=D->c.wp P (Bx g w N D K) a w
def thn(next:AE->St->Prop)(K:AX->AE->St->Prop):AX->AE->St->Prop
  | .normal=>next
  | .exit id=>K (.exit id)
  | .goto l=>K (.goto l)
  | .ret=>K .ret
  | .pan x=>K (.pan x)
def blk(id:Nat)(K:AX->AE->St->Prop):AX->AE->St->Prop
  | .normal=>K .normal
  | .exit id'=> bif Nat.beq id' id then K .normal else K (.exit id')
  | .goto l=>K (.goto l)
  | .ret=>K .ret
  | .pan x=>K (.pan x)
def scp(K:AX->AE->St->Prop):AX->AE->St->Prop
  | .normal=>K .normal
  | .exit id=>K (.exit id)
  | .goto _=>λ_ _=>False
  | .ret=>K .ret
  | .pan x=>K (.pan x)
def Sub:AE->AE->Prop
  |[],_=>True
  |(t,v)::s,s'=> lk s' t=v/\Sub s s'
theorem Sub.a1{g:Gh}{w:World}{a:Array Value}{s': AE}(hs:A3 g w s' a):∀ {s:AE},Sub s s'-> A3 g w s a
  |[],_,_=>trivial
  |(t,v)::s,h,u=>by
    unfold lk;cases e:Nat.beq t u with
    |true=>have:=Nat.eq_of_beq_eq_true e;subst this;have h1:=hs t;rw[h.1]at h1;exact h1
    |false=>exact Sub.a1 hs h.2 u
section
variable {P:Program} {N:Nat} {D:List Deferred} {K:AX->AE->St->Prop} {s:AE} {H:St}
theorem Bx.trans{g b:Gh}{w c:World}(h:Ar g w b c){e:Exit}{w': World}(hp:Bx b c N D K e a w'):Bx g w N D K e a w':=
  let ⟨d,s,H,g', h1,h2,h3,h4,f⟩:=hp;⟨d,s,H,g', h1,h2,h3,h.trans h4,f⟩
theorem AB.weaken{s': AE}(h:AB P N D c K s H)(hs:Sub s s'):AB P N D c K s' H:=λg w a X hr ha b=>h g w a X (hs.a1 hr) ha b
theorem AB.mono{K': AX->AE->St->Prop}(h:AB P N D c K s H)(hk:∀e s H,K e s H->K' e s H):AB P N D c K' s H:=λg w a X hr ha d=>wp_mono (h g w a X hr ha d) λ_ _ _ ⟨b,s,H,g', h1,h2,h3,h4,h5,h6,h7⟩=>⟨b,s,H,g', h1,h2,h3,h4,h5,h6,hk _ _ _ h7⟩
def AB.skip(h:K .normal s H):AB P N D .skip K s H:=λg w a X hr ha b=>wp_skip ⟨.normal,s,H,g,rfl,ha,b,fD g w,X,hr,h⟩
def AB.label{l:Nat}(h:K .normal s H):AB P N D (.label l) K s H:=λg w a X hr ha b=>wp_label ⟨.normal,s,H,g,rfl,ha,b,fD g w,X,hr,h⟩
def AB.exit{id:Nat}(h:K (.exit id) s H):AB P N D (.exit id) K s H:=λg w a X hr ha b=>wp_exit ⟨.exit id,s,H,g,rfl,ha,b,fD g w,X,hr,h⟩
theorem AB.ret(h:K .ret s H):AB P N D .ret K s H:=λg w a X hr ha b=>wp_ret ⟨.ret,s,H,g,rfl,ha,b,fD g w,X,hr,h⟩
def AB.seq{x:Code}(h:AB P N D x (thn (AB P N D y K) K) s H):AB P N D (.seq x y) K s H:=λg w a X hr ha d=>by
  refine wp_seq (wp_mono (h g w a X hr ha d) ?_);rintro e b w' ⟨c,s', σ', g', h1,h2,h3,h4,h5,h6,h7⟩;cases c with
  |normal=>cases (show e = .normal from h1);exact wp_mono (h7 g' w' b h5 h6 h2 h3) λ_ _ _ hp=>hp.trans h4
  |exit id=>cases (show e = .exit id from h1);exact⟨.exit id,s', σ', g', rfl,h2,h3,h4,h5,h6,h7⟩
  |goto l=>cases (show e = .goto l from h1);exact⟨.goto l,s', σ', g', rfl,h2,h3,h4,h5,h6,h7⟩
  |ret=>cases (show e = .ret from h1);exact⟨.ret,s', σ', g', rfl,h2,h3,h4,h5,h6,h7⟩
  |pan x=>obtain⟨u,rfl,f⟩:=h1;exact⟨.pan x,s', σ', g', ⟨u,rfl,f⟩,h2,h3,h4,h5,h6,h7⟩
theorem AB.block{id:Nat}(h:AB P N D c (blk id K) s H):AB P N D (.block id c) K s H:=λg w a X hr ha f=>by
  refine wp_block (wp_mono (h g w a X hr ha f) ?_);rintro e j w' ⟨d,s', σ', g', h1,h2,h3,h4,h5,h6,h7⟩;cases d with
  |normal=>cases (show e = .normal from h1);exact⟨.normal,s', σ', g', rfl,h2,h3,h4,h5,h6,h7⟩
  |exit b=>
    cases (show e = .exit b from h1);show ite _ _ _;by_cases e:b=id
    · subst e;rw[if_pos rfl];refine⟨.normal,s', σ', g', rfl,h2,h3,h4,h5,h6, ?_⟩;simpa [blk]using h7
    · rw[if_neg e];refine⟨.exit b,s', σ', g', rfl,h2,h3,h4,h5,h6, ?_⟩;have:Nat.beq b id=false:=by
        cases hh:Nat.beq b id with
        |false=>rfl
        |true=>exact absurd (Nat.eq_of_beq_eq_true hh) e
      simpa [blk,this]using h7
  |goto l=>cases (show e = .goto l from h1);exact⟨.goto l,s', σ', g', rfl,h2,h3,h4,h5,h6,h7⟩
  |ret=>cases (show e = .ret from h1);exact⟨.ret,s', σ', g', rfl,h2,h3,h4,h5,h6,h7⟩
  |pan x=>obtain⟨u,rfl,i⟩:=h1;exact⟨.pan x,s', σ', g', ⟨u,rfl,i⟩,h2,h3,h4,h5,h6,h7⟩
def AB.scope(h:AB P N D c (scp K) s H):AB P N D (.scope c) K s H:=λg w a X hr ha d=>by
  refine wp_scope_straight (wp_mono (h g w a X hr ha d) ?_);rintro e i w' ⟨b,s', σ', g', h1,h2,h3,h4,h5,h6,h7⟩;cases b with
  |normal=>cases (show e = .normal from h1);exact⟨.normal,s', σ', g', rfl,h2,h3,h4,h5,h6,h7⟩
  |exit id=>cases (show e = .exit id from h1);exact⟨.exit id,s', σ', g', rfl,h2,h3,h4,h5,h6,h7⟩
  |goto l=>exact h7.elim
  |ret=>cases (show e = .ret from h1);exact⟨.ret,s', σ', g', rfl,h2,h3,h4,h5,h6,h7⟩
  |pan x=>obtain⟨u,rfl,f⟩:=h1;exact⟨.pan x,s', σ', g', ⟨u,rfl,f⟩,h2,h3,h4,h5,h6,h7⟩
def o7{c:Operand}{x:Code}(O:ev s c = .bool true)(h:AB P N D x K s H):AB P N D (.cond c x y) K s H:=λg w a X hr ha b=>by have h1:=Fy X.gl hr c;rw[O]at h1;exact wp_cond_true h1 (h g w a X hr ha b)
def oA{c:Operand}{x:Code}(O:ev s c = .bool false)(h:AB P N D y K s H):AB P N D (.cond c x y) K s H:=λg w a X hr ha b=>by have h1:=Fy X.gl hr c;rw[O]at h1;exact wp_cond_false h1 (h g w a X hr ha b)
def AB.cond{c:Operand}{x:Code}(O:ev s c = .bool b)(ht:b=true->AB P N D x K s H)(hf:b=false->AB P N D y K s H):AB P N D (.cond c x y) K s H:=by
  cases b with
  |true=>exact o7 O (ht rfl)
  |false=>exact oA O (hf rfl)
def Ef(J:Nat->Act->World->Prop)
    (p:∀n a w,J n a w->c.wp P (Exit.then (λq w'=> ∃m,m<n/\J m q w') Q) a w) {w:World} (h:J n a w):(Code.loop c).wp P Q a w:=by
  intro b k cs;have v:∀n a w,J n a w->∃e q w', Q e q w'/\ Arrives P (lone (b.at a (.code c :: .inLoop c::k)) cs w) b k cs e q w':= by
    intro n;induction n using Nat.strongRecOn with
    |ind n E=>
      intro a w h;obtain⟨e,f,g,j,d⟩:=p n a w h b (.inLoop c::k) cs;cases e with
      |normal=>obtain⟨m,z,y⟩:=j;obtain⟨t,r,u,o,i⟩:=E m z f g y;exact⟨t,r,u,o, .of_steps (Steps.trans d (.one step_inLoop)) i⟩
      |exit id=>exact⟨_,f,g,j, .pass (x := .inLoop c) rfl (λ_ _ => .inl Wa) d⟩
      |goto l=>exact⟨_,f,g,j, .pass (x := .inLoop c) rfl (λ_ _ => .inl Wa) d⟩
      |ret=>exact⟨_,f,g,j, .pass (x := .inLoop c) rfl (λ_ _ => .inl Wa) d⟩
      |panic ch=>exact⟨_,f,g,j, .pass (x := .inLoop c) rfl (λ_ _ => .inl Wa) d⟩
      |outgrown=>exact⟨_,f,g,j, .pass (x := .inLoop c) rfl (λ_ _ => .inl Wa) d⟩
  obtain⟨e,q,w', j,d⟩:=v n a w h;exact⟨e,q,w', j, .of_steps (.one step_loop) d⟩
def J1{c:Operand}{x:Code}(O:ev s c = .bool b)(hb:b=true)(h:AB P N D x K s H):AB P N D (.cond c x y) K s H:=o7 (by rw[O,hb]) h
def LW{c:Operand}{x:Code}(O:ev s c = .bool b)(hb:b=false)(h:AB P N D y K s H):AB P N D (.cond c x y) K s H:=oA (by rw[O,hb]) h
theorem AB.loop(I:Nat->AE->St->Prop){s0:AE}(z:Sub s0 s)(h0:I n s0 H)
    (d:∀n f b,I n f b->AB P N D c (thn (λs' σ'=> ∃m,m<n/\∃j,Sub j s'/\ aM H.B.length H.T.length j=true/\(aQ H.B.length H.T.length (σ'.B.take H.B.length)&&aL H.B.length H.T.length (σ'.T.take H.T.length))=true/\
      I m j ⟨σ'.B.take H.B.length,σ'.T.take H.T.length⟩) K) f b):AB P N D (.loop c) K s H:=λg w a X hr ha y=>by
  refine Ef (λn k w'=> ∃f b h,I n f b/\Ar g w h w'/\ Inv h b w'/\ A3 h w' f k.tmps/\k.tmps.size=N/\k.defers=D) ?_ (n:=n) ⟨s0,H,g,h0,fD g w,X,z.a1 hr,ha,y⟩;have p:=X.lenB;have a1:=X.lenT;rintro n a w1 ⟨f,b,h,hI,Y,X,hr,ha,y⟩;refine wp_mono (d n f b hI h w1 a X hr ha y) ?_;rintro e k w' ⟨ae,s', σ', g', e1,e2,e3,e4,e5,e6,e7⟩;cases ae with
  |normal=>cases (show e = .normal from e1);obtain⟨m,hm,j,a0,v,i,o⟩:=e7;obtain⟨q,r⟩:=(and_eq_true _ _).mp i;exact⟨m,hm,j,_,_,o,rQ (Y.trans e4) (Nat.le_of_eq p) (Nat.le_of_eq a1),pF e5 q r,λt=>Ab.aa _ _ (rP v t) (a0.a1 e6 t),e2,e3⟩
  |exit id=>cases (show e = .exit id from e1);exact⟨.exit id,s', σ', g', rfl,e2,e3,Y.trans e4,e5,e6,e7⟩
  |goto l=>cases (show e = .goto l from e1);exact⟨.goto l,s', σ', g', rfl,e2,e3,Y.trans e4,e5,e6,e7⟩
  |ret=>cases (show e = .ret from e1);exact⟨.ret,s', σ', g', rfl,e2,e3,Y.trans e4,e5,e6,e7⟩
  |pan x=>obtain⟨u,rfl,hu⟩:=e1;exact⟨.pan x,s', σ', g', ⟨u,rfl,hu⟩,e2,e3,Y.trans e4,e5,e6,e7⟩
def Cd(N:Nat):List Oper->Bool
  |[]=>true
  |o::C=>(match o.dst with|some d=>Nat.blt d N|none=>true)&&Cd N C
def yW{N:Nat}:∀ {l:List Oper},Cd N l=true->∀d,(∃b∈l,b.dst=some d)->d<N
  |[],_,_,⟨_,h,_⟩=>by cases h
  |o::C,h,d,⟨b,a,c⟩=>by
    unfold Cd at h;rw[and_eq_true]at h;rcases List.mem_cons.1 a with rfl|a
    · simp_all
    · exact yW h.2 d ⟨b,a,c⟩
def AB.region{id:Nat}{b:Array Oper}(i:Cd N b.toList=true)(h:AD P b false K b.toList [] s H):AB P N D (.region id b false) K s H:=λg w a X hr ha j=>
  wp_region_list (Fm (Q:=Bx g w N D K) (g0:=g) (w0:=w) (D:=D) (K:=K) (yW i)
    (λs' σ' g' w' e h1 h2 h3 h4 c d=>⟨.normal,s', σ', g', rfl,h1,h2,h3,h4,c,d⟩)
    (λx s' σ' g' w' e u h1 h2 h3 h4 c d f=>⟨.pan x,s', σ', g', ⟨u,rfl,f⟩,h1,h2,h3,h4,c,d⟩)
    b.toList [] s H g w a (λ_ h=>h) ha j (fD g w) X hr h)
def vJ{id:Nat}{b:Array Oper}(c:P.follows .mixedOrders=true)(f:Cd N b.toList=true)(h:AD P b true K b.toList [] s H):AB P N D (.region id b true) K s H:=λg w a X hr ha i=>
  O2 (Q:=Bx g w N D K) c (yW f) ha i X hr
    (λs' σ' g' w' j h1 h2 h3 h4 d e=>⟨.normal,s', σ', g', rfl,h1,h2,h3,h4,d,e⟩) h
inductive Av where
  |ret (v:AV)
  |pan (v:AV)
def Qp(g:Gh)(w:World):Av->Ending->Prop
  | .ret v,e=>∃u,e = .returned u/\Ab g w v u
  | .pan v,e=>∃u,e = .panicked [{ v:=u,recovered:=false }]/\Ab g w v u
def Az(P:Program)(f:FuncId):Prop:=∃fn,P.funcs[f]? =some fn/\(fn.name == "runtime.NumGoroutine")=false/\fn.body.isNone=false
def AQ(P:Program)(f:FuncId)(args:List AV)(H:St)(o:Av->St->Prop):Prop:=
  Az P f/\∀(g:Gh) (w:World) (J:Array Value),Inv g H w->AL g w args J.toList->
    Calls P f J w λe w'=> ∃g' σ' x,Ar g w g' w'/\ Inv g' σ' w'/\ Qp g' w' x e/\o x σ'
def AN(P:Program)(f:FuncId)(args:List AV)(r:AV):Prop:=
  Az P f/\aB args=true/\∀(im:Nat->Nat->Prop) (w:World) (J:Array Value),(∀b o,im b o->b<w.heap.size)->Aq im w->AL ⟨[],[],im⟩ w args J.toList->
    Calls P f J w λe w'=> ∃im', Ar ⟨[],[],im⟩ w ⟨[],[],im'⟩ w'/\ (∀b o,im' b o->b<w'.heap.size)/\∃u,e = .returned u/\Ab ⟨[],[],im'⟩ w' r u
def cB:Nat->List AV->AE
  |_,[]=>[]
  |k,v::vs=>(k,v)::cB (k+1) vs
theorem kQ:∀(vs:List AV) (k t:Nat),lk (cB k vs) t=if t<k then .undef else (vs[t-k]?).getD .undef
  |[],k,t=>by simp[cB,lk]
  |v::vs,k,t=>by
    simp only[cB,lk];cases e:Nat.beq k t with
    |true=>simp_all
    |false=>have a:k≠t:=Nat.ne_of_beq_eq_false e;rw[cond_false,kQ vs (k+1) t];grind
def gK(s:AE):List Nat->AV
  |[t]=>lk s t
  |ts => .tup (ts.map (lk s))
def IY(tmps:Array Value):List Nat->Value
  |[t]=>tmps.getD t undef
  |ts => .tuple (ts.map λt=>tmps.getD t undef).toArray
def J2{fn:Func}{ts:List Nat}(h:fn.results=(ts.map ResultVar.tmp).toArray)(hn:ts.length<=6)(g:Array Value)(P:Program)(w:World):
    (results fn g).run P w = .ok (IY g ts) w:=by
  match ts,hn with
  |[],_=>simp[results,h,IY]
  |[a],_=>simp[results,h,IY]
  |[a,b],_=>simp[results,h,IY]
  |[a,b,c],_=>simp[results,h,IY]
  |[a,b,c,d],_=>simp[results,h,IY]
  |[a,b,c,d,e],_=>simp[results,h,IY]
  |[a,b,c,d,e,f],_=>simp[results,h,IY]
  |_::_::_::_::_::_::_::_,hn=>simp at hn
theorem HG{g:Gh}{w:World}{s:AE}{a:Array Value}(hs:A3 g w s a):∀ts:List Nat,AL g w (ts.map (lk s)) (ts.map λt=>a.getD t undef)
  |[]=>rfl
  |t::ts=>⟨_,_,rfl,hs t,HG hs ts⟩
def O1{g:Gh}{w:World}{s:AE}{c:Array Value}(hs:A3 g w s c)(ts:List Nat):
    Ab g w (gK s ts) (IY c ts):=by
  match ts with
  |[t]=>exact hs t
  |[]=>exact⟨#[],rfl,rfl⟩
  |a::b::ts=>exact⟨_,rfl,by simpa using HG hs (a::b::ts)⟩
def fin(ts:List Nat)(o:Av->St->Prop):AX->AE->St->Prop
  | .normal=>λs H=>o (.ret (gK s ts)) H
  | .ret=>λs H=>o (.ret (gK s ts)) H
  | .pan x=>λ_ H=>o (.pan x) H
  |_=>λ_ _=>False
theorem AQ.enter{f:FuncId}{fn:Func}{args:List AV}{H:St}{o:Av->St->Prop}(ts:List Nat){N:Nat}(hf:P.funcs[f]? =some fn)(hb:fn.body=some c)(p:fn.ntmps=N)
    (d:(fn.name == "runtime.NumGoroutine")=false) (b:Nat.ble args.length N=true) (i:fn.results=(ts.map ResultVar.tmp).toArray) (hn:ts.length<=6)
    (h:AB P N [] c (fin ts o) (cB 0 args) H):AQ P f args H o:=by
  refine⟨⟨fn,hf,d,Yy⟩,λg w J X hl=> ?_⟩;have j:args.length<=N:=le_of_ble_eq_true b;have k:J.size=args.length:=XC
  refine calls_of_wp hf hb (wp_mono (h g w _ X (λt=> ?_) ?_ rfl) ?_)
  · rw[kQ]
    cases e:args[t]? with
    |none=>trivial
    |some v=>
      obtain⟨u,h1,h2⟩:=hl.get e;have:(J++Array.replicate (fn.ntmps-J.size) undef).getD t undef=u:=by rw[Array.getElem?_toList]at h1;have hlt:=(Array.getElem?_eq_some_iff.1 h1).1;simp only[Array.getD_eq_getD_getElem?];grind
      simp_all
  · simp;omega
  · rintro e a w' ⟨m,s', σ', g', h1,h2,h3,h4,h5,h6,h7⟩
    have hr:=J2 i hn a.tmps P w';have hv:=O1 h6 ts;cases m with
    |normal=>cases (show e = .normal from h1);exact⟨h3,_,hr,g', σ', .ret _,h4,h5,⟨_,rfl,hv⟩,h7⟩
    |ret=>cases (show e = .ret from h1);exact⟨h3,_,hr,g', σ', .ret _,h4,h5,⟨_,rfl,hv⟩,h7⟩
    |exit id=>exact h7.elim
    |goto l=>exact h7.elim
    |pan x=>obtain⟨u,rfl,n⟩:=h1;exact⟨h3,g', σ', .pan x,h4,h5,⟨u,rfl,n⟩,h7⟩
end
def AC(x y:AV):Prop:=∀(g:Gh) (w:World) (v:Value),Ab g w x v->Ab g w y v
def AA(xs ys:List AV):Prop:=∀(g:Gh) (w:World) (vs:List Value),AL g w xs vs->AL g w ys vs
def aG(x:AV):AC x x:=λ_ _ _ h=>h
theorem AC.undef(x:AV):AC x .undef:=λ_ _ _ _=>trivial
theorem aD(xs:List AV):AA xs xs:=λ_ _ _ h=>h
theorem AA.cons{x y:AV}{xs ys:List AV}(h:AC x y)(hs:AA xs ys):AA (x::xs) (y::ys):=λg w _ ⟨v,C,e,h1,h2⟩=>⟨v,C,e,h g w _ h1,hs g w _ h2⟩
theorem AC.agg{xs ys:List AV}(h:AA xs ys):AC (.agg xs) (.agg ys):=λg w _ ⟨vs,e,h1,h2⟩=>⟨vs,e,h g w _ h1,h2⟩
theorem AC.tup{xs ys:List AV}(h:AA xs ys):AC (.tup xs) (.tup ys):=λg w _ ⟨vs,e,h1⟩=>⟨vs,e,h g w _ h1⟩
theorem AC.no{xs ys:List AV}{t:Tk}(h:AA xs ys):AC (.slice xs t) (.slice ys .no):=λg w _ ⟨a,cap,sz,Vs,e,h1,h2,_,h4,h5,h6⟩=>⟨a,cap,sz,Vs,e,h1,h2,trivial,h g w _ h4,h5,h6⟩
section
variable {P:Program}
theorem AQ.plain{f:FuncId}{args:List AV}{r:AV}(O:r.K=true)(ha:aB args=true)(h:AQ P f args ⟨[],[]⟩ (λe _=>∃v,e = .ret v/\AC v r)):AN P f args r:=by
  refine⟨h.1,ha,λim w J c a hl=> ?_⟩;have X:Inv ⟨[],[],im⟩ ⟨[],[]⟩ w:=⟨rfl,rfl,λi b ob h=>Wm,List.nodup_nil,λb h=>Wm,λk t r h=>Wm,λk r h=>Wm,
    λk m r r' _ h=>Wm,c,a⟩
  refine(h.2 _ w J X hl).mono ?_;rintro e w' ⟨g', σ', x,h1,h2,h3,v,rfl,hw⟩;obtain⟨u,rfl,j⟩:=h3;obtain⟨g,l,d⟩:=g';refine⟨d,⟨⟨h1.le.im,λi b h=>Wm,λk r h=>Wm⟩,h1.size,h1.os,h1.tape,h1.output,h1.fr,h1.frc,h1.newim,λb h=>Wm,λk r h=>Wm⟩,h2.imlt,u,rfl,pP r u O (hw _ _ _ j)⟩
end
def vK{g:Gh}{H:St}{w w': World}{a:Nat->Nat->Prop}(X:Inv g H w)(Y:Ar ⟨[],[],g.im⟩ w ⟨[],[],a⟩ w')(hl:∀b o,a b o->b<w'.heap.size):
    Ar g w ⟨g.bx,g.tk,a⟩ w'/\ Inv ⟨g.bx,g.tk,a⟩ H w':= by
  have j:∀b,b<w.heap.size->w'.heap[b]? =w.heap[b]? :=λb hb=>Y.fr b hb Wa (λk r h=>Wm)
  have c:∀b o,b<w.heap.size->w'.cell? ⟨b,o,none⟩=w.cell? ⟨b,o,none⟩/\w'.frozen? ⟨b,o,none⟩=w.frozen? ⟨b,o,none⟩:=λb o hb=>Y.frc b o hb Wa (λk r h=>Wm)
  have e:∀b o,a b o->g.im b o\/w.heap.size<=b:=λb o h=>by
    rcases Y.newim b o h with h|h|⟨k,r,h,_⟩
    · exact .inl h
    · exact .inr h
    · simp at h
  have l:∀b,b∈g.bx->b<w.heap.size:=λb hb=>by
    obtain⟨i,hi', rfl⟩:=List.getElem_of_mem hb;have hlt:i<H.B.length:=by rw[<-X.lenB];exact hi'
    exact(X.ob i _ _ (List.getElem?_eq_getElem hi') (List.getElem?_eq_getElem hlt)).lt
  have hz:∀(k:Nat) (r:A9),g.tk[k]? =some r->∀b o,r.az b o->b<w.heap.size:=λk r hk b o f=>by
    obtain⟨v,hv⟩:=(X.tkz k r hk b o f).2.2.1;unfold World.cell? at hv;cases hb:w.heap[b]? with
    |none=>simp[hb]at hv
    |some x=>exact(Array.getElem?_eq_some_iff.1 hb).1
  have d:Le g w ⟨g.bx,g.tk,a⟩ w':= ⟨Y.le.im,λ_ _ h=>h,λ_ r h=>⟨r,h, .inl rfl⟩⟩;refine⟨⟨d,Y.size,Y.os,Y.tape,Y.output,λb hb _ _=>j b hb,λb o hb _ _=>c b o hb,λb o h=>(e b o h).elim .inl (λh => .inr (.inl h)),λb h => .inl h,λk r h b o f => .inr ⟨r,h,f⟩⟩,
    ⟨X.lenB,X.lenT,λi b ob h1 h2=>(X.ob i b ob h1 h2).mono d (j b (l b (List.mem_of_getElem? h1))),X.nodup,λb hb o h=> ?_,λk t r hk ht=>(X.tok k t r hk ht).mono d λb o f=>(c b o (hz k r hk b o f)).1,λk r hk b o f=> ?_,X.tkd,hl,X.gl.le d⟩⟩
  · rcases e b o h with h|h
    · exact X.noim b hb o h
    · grind
  · obtain⟨h1,h2,h3,h4⟩:=X.tkz k r hk b o f;grind
end Go.Av
