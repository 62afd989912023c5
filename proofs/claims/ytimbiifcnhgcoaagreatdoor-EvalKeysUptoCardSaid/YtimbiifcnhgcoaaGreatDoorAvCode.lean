/- Joined texts. -/
import Derived.Calls
import Derived.Orders
import Derived.WalkKit
import Derived.LoopN
import Derived.Scope
set_option linter.all false
open List (all_eq_true getElem?_take_of_lt mem_range)
open Nat (le_of_ble_eq_true le_refl le_trans lt_succ_self zero_le)
open Bool (and_eq_true not_eq_true')
open Option (getD_some)
open Go
variable{a:Act}{tmps:Array Value}{b:Bool}{c y:Code}{Q:Exit->Act->World->Prop}{n m:Nat}{o f:Oper}{v:Value}{w0 j l:World}
namespace Go.Av
theorem Z9{p:Prop}(h:p:=by repeat' first|exact rfl|exact trivial|refine⟨?_,?_⟩):p:=h
def Wa{p:Prop}(h:p:=by dsimp only[List.length_cons,List.length_nil];omega):p:=h
theorem Wb{p:Prop}(h:p:=by simp):p:=h
theorem Wc{p:Prop}(h:p:=by kernel_rfl):p:=h
theorem Wd{p:Prop}(h:p:=by decide):p:=h
def We{p:Prop}(h:p:=by simp[Op.operands]):p:=h
def Wf{p:Prop}(h:p:=by rw[k];rfl):p:=h
def Wg{p:Prop}(h:p:=by dsimp only;omega):p:=h
def Wh{p:Prop}(h:p:=by assumption):p:=h
def Wi{p:Prop}(h:p:=by simp[aQ,aL,Ob.ab,Tok.ab,aE,AV.ab]):p:=h
def Wj{p:Prop}(h:p:=by simp[aM,AV.ab]):p:=h
def Wk{p:Prop}(h:p:=by rw[hk]at t3;cases dd<;>first|exact⟨_,rfl⟩|cases t3):p:=h
theorem Wl{p:Prop}(h:p:=by simp;omega):p:=h
def Wm{p:Prop}(h:p:=by simp[Op.operands,Call.operands]):p:=h
theorem Wn{p:Prop}(h:p:=by simp[AV.K,aA,AJ.K]):p:=h
def Wo{p:Prop}(h:p:=by simp[Value.cells,Value.oneCell']):p:=h
theorem Wp{p:Prop}(h:p:=by simp at h):p:=h
def Wq{p:Prop}(h:p:=by simpa [Op.operands,Call.operands]using .inr (by simpa using hx)):p:=h
def Wr{p:Prop}(h:p:=by simp[-List.map_take,aM,AV.ab,aF,AJ.K]):p:=h
def Wt{p:Prop}(h:p:=by rw[show gG s [t1,t2] = .tup [a,b] by unfold gG;simp only[List.map_cons,List.map_nil,gY d,gY e]];exact hw):p:=h
theorem Wu{p:Prop}(h:p:=by simpa using h):p:=h
def Wv{p:Prop}(h:p:=by rw[List.take_length]):p:=h
theorem Ww{p:Prop}(h:p:=by simp[a]):p:=h
def Wx{p:Prop}(h:p:=by simp[AV.K,aA,AJ.K,Ac.K,AH.K,aR]):p:=h
def Wy{p:Prop}(h:p:=by simp[aM,AV.ab,aE,dG,dY,Tbls.C,BF.C]):p:=h
def Wz{p:Prop}(h:p:=by simp[aA,AH.K]):p:=h
theorem W0{p:Prop}(h:p:=by cases h):p:=h
theorem W1{p:Prop}(h:p:=by simp[aQ,aL,Ob.ab,Tok.ab,aE,AV.ab,fF]):p:=h
def W2{p:Prop}(h:p:=by have:=(inferInstance:Z a.name.length).le;omega):p:=h
def W3{p:Prop}(h:p:=by simp[AV.K,aA,AH.K]):p:=h
def W4{p:Prop}(h:p:=by rw[b];rfl):p:=h
def W5{p:Prop}(h:p:=by unfold Af.size;omega):p:=h
def W6{p:Prop}(h:p:=by simp[AV.K,aA,aR]):p:=h
def W7{p:Prop}(h:p:=by have:=dQ h;omega):p:=h
def W8{p:Prop}(h:p:=by have:=dK h;omega):p:=h
def W9{p:Prop}(h:p:=by rw[Bool.eq_iff_iff,beq_iff_eq,decide_eq_true_eq];omega):p:=h
theorem WA{p:Prop}(h:p:=by simpa using c):p:=h
theorem WB{p:Prop}(h:p:=by simpa [AV.ab]using h):p:=h
def WC{p:Prop}(h:p:=by simpa [AV.ab]using O):p:=h
def WD{p:Prop}(h:p:=by rw[List.length_drop];omega):p:=h
def WE{p:Prop}(h:p:=by rw[ht];omega):p:=h
theorem WF{p:Prop}(h:p:=by rw[List.length_map];omega):p:=h
theorem WG{p:Prop}(h:p:=by simp[O]):p:=h
def WH{p:Prop}(h:p:=by simp[AV.K,aA,Ag.K]):p:=h
theorem WI{p:Prop}(h:p:=by rw[c];rfl):p:=h
def WJ{p:Prop}(h:p:=by unfold Ah.size;omega):p:=h
def WK{p:Prop}(h:p:=by simp[AV.K,aA,eC,Ac.K,AH.K]):p:=h
def WL{p:Prop}(h:p:=by simp[aM,AV.ab,Tbls.C,dY]):p:=h
def WM{p:Prop}(h:p:=by rw[hk]at f;cases b<;>first|exact⟨_,rfl⟩|cases f):p:=h
def WN{p:Prop}(h:p:=by rw[List.take_succ_eq_append_getElem h,List.map_append];rfl):p:=h
theorem WO{p:Prop}(h:p:=by simp[aQ,aL,Ob.ab,Tok.ab]):p:=h
theorem WP{p:Prop}(h:p:=by simpa using hx):p:=h
def WQ{p:Prop}(h:p:=by rw[a];rfl):p:=h
def WR{p:Prop}(h:p:=by rw[AH.size,iL,iM];simp only[List.length_nil];omega):p:=h
def WS{p:Prop}(h:p:=by simp[eqGuard,Go.binOp,Op.intCmp]):p:=h
def WT{p:Prop}(h:p:=by simp only[Op.operands,List.toList_toArray];exact List.mem_map.2 ⟨p,hp,rfl⟩):p:=h
def WU{p:Prop}(h:p:=by simp[AV.K,aA,BO.K]):p:=h
def WV{p:Prop}(h:p:=by simp[-List.map_take,aM,AV.ab]):p:=h
def WW{p:Prop}(h:p:=by have:=List.mem_range.1 X;omega):p:=h
def WX{p:Prop}(h:p:=by grind[List.take_succ_eq_append_getElem]):p:=h
def WY{p:Prop}(h:p:=by simp[AV.K,aA,aT]):p:=h
def WZ{p:Prop}(h:p:=by grind):p:=h
def Xa{p:Prop}(h:p:=by simp[AV.K,cH]):p:=h
def Xb{p:Prop}(h:p:=by simp[aQ,aL,Ob.ab,AV.ab,aE,dG,fF,mG,mI]):p:=h
def Xc{p:Prop}(h:p:=by simp[aA,AV.K,Sl.cb]):p:=h
def Xd{p:Prop}(h:p:=by simp[AV.K,aA,AJ.K,AR.K,Ak.K,aR,Tbls.K]):p:=h
def Xe{p:Prop}(h:p:=by decide+kernel):p:=h
def Xf{p:Prop}(h:p:=by rw[List.take_length,List.drop_zero,List.take_of_length_le (by simp)]):p:=h
def Xg{p:Prop}(h:p:=by rw[x.ay];omega):p:=h
def Xh{p:Prop}(h:p:=by have:=aN (size:=AF.size) (List.getElem_mem h);have a:v.m[k].size=v.m[k].name.length+2+v.m[k].v.size:=rfl;rw[v.ay];omega):p:=h
def Xi{p:Prop}(h:p:=by cases (show a=_ from ha);cases (show b=_ from hb);exact⟨.int k r,by simp[eqGuard,Go.binOp,Op.shift,Int.not_lt.2 hn,hr],rfl⟩):p:=h
def Xj{p:Prop}(h:p:=by unfold Ak.size;omega):p:=h
def Xk{p:Prop}(h:p:=by simp[aM,AV.ab,aE,aD _ _ _ b]):p:=h
def Xl{p:Prop}(h:p:=by simp[A0.C,AV.K,aA,dM]):p:=h
def Xm{p:Prop}(h:p:=by rw[hp,e,if_neg (by simp[O])]):p:=h
def Xn{p:Prop}(h:p:=by cases (show a=_ from ha);cases (show b=_ from hb);exact⟨.int k r,by simp[eqGuard,Go.binOp,Op.intDiv,hn,hr],rfl⟩):p:=h
def Xo{p:Prop}(h:p:=by simp[AV.K,aA,AJ.K,bZ,aR]):p:=h
def Xp{p:Prop}(h:p:=by rw[List.map_append];rfl):p:=h
def Xq{p:Prop}(h:p:=by simp[eqGuard,Go.binOp,Op.stringOp,vV]):p:=h
def Xr{p:Prop}(h:p:=by simp[aQ,aL,Ob.ab,AV.ab,aE,dG,fF]):p:=h
def Xs{p:Prop}(h:p:=by rw[List.take_succ_eq_append_getElem b,List.map_append];rfl):p:=h
theorem Xt{p:Prop}(h:p:=by simpa using X):p:=h
theorem Xu{p:Prop}(h:p:=by simp_all):p:=h
def Xv{p:Prop}(h:p:=by rw[iO];omega):p:=h
def Xw{p:Prop}(h:p:=by simpa using Array.mem_of_getElem? c):p:=h
def Xx{p:Prop}(h:p:=by rcases a with⟨rfl,rfl⟩|⟨⟨t,v,rfl⟩,rfl⟩<;>simp[Op.equalIn,run_underlying h,Result.andThen]):p:=h
def Xy{p:Prop}(h:p:=by simpa using hj):p:=h
theorem Xz{p:Prop}(h:p:=by cases hp):p:=h
theorem X0{p:Prop}(h:p:=by simpa [AV.K]using h):p:=h
def X1{p:Prop}(h:p:=by simp only[List.length_cons,List.length_nil];omega):p:=h
def X2{p:Prop}(h:p:=by simp[hk]):p:=h
def X3{p:Prop}(h:p:=by have:=v.au;omega):p:=h
def X4{p:Prop}(h:p:=by unfold AO.size;omega):p:=h
def X5{p:Prop}(h:p:=by unfold AF.size;omega):p:=h
def X6{p:Prop}(h:p:=by simp[aQ,aL,Ob.ab,Tok.ab,aE,AV.ab,fF,pT,Ce]):p:=h
def X7{p:Prop}(h:p:=by unfold Ac.size;omega):p:=h
def X8{p:Prop}(h:p:=by simp[aA,Tbls.K,BF.K]):p:=h
theorem X9{p:Prop}(h:p:=by simp[b]):p:=h
def XA{p:Prop}(h:p:=by simp[aA,AV.K,aZ]):p:=h
theorem XB{p:Prop}(h:p:=by rw[hp,cR a,if_neg (by simp[O])]):p:=h
def XC{p:Prop}(h:p:=by rw[<-d.bx i (by simpa [AV.ab]using O)];exact c):p:=h
def XD{p:Prop}(h:p:=by simp[AV.K,aA,AP.K]):p:=h
def XE{p:Prop}(h:p:=by simp[aM,AV.ab,aF,eC]):p:=h
def XF{p:Prop}(h:p:=by simp[Aj.wT]):p:=h
def XG{p:Prop}(h:p:=by rw[fA];omega):p:=h
def XH{p:Prop}(h:p:=by rw[SA rfl .undef (by rw[AV.af])];exact AA.cons (aG _) (AA.cons (Dh _ _ _ (zC _)) (aB _))):p:=h
def XI{p:Prop}(h:p:=by unfold Ag.size;omega):p:=h
def XJ{p:Prop}(h:p:=by rw[kB];exact Nat.le_succ _):p:=h
def XK{p:Prop}(h:p:=by simp[AV.K,aA,AJ.K,Ag.K]):p:=h
def XL{p:Prop}(h:p:=by rw[List.length_map,List.length_take];omega):p:=h
def XM{p:Prop}(h:p:=by unfold AR.size;omega):p:=h
theorem XN{p:Prop}(h:p:=by simpa using i):p:=h
def XO{p:Prop}(h:p:=by rw[h0];rfl):p:=h
theorem XP{p:Prop}(h:p:=by rw[e];exact a):p:=h
def XQ{p:Prop}(h:p:=by unfold xI;dsimp only;omega):p:=h
theorem XR{p:Prop}(h:p:=by simpa using l):p:=h
theorem XS{p:Prop}(h:p:=by simp[Value.oneCell']):p:=h
def XT{p:Prop}(h:p:=by simp[ByteArray.size]):p:=h
def XU{p:Prop}(h:p:=by rw[szV,szL];simp only[List.length_nil]):p:=h
theorem XV{p:Prop}(h:p:=by rw[List.length_map];dsimp only;omega):p:=h
def XW{p:Prop}(h:p:=by unfold g6;omega):p:=h
def XX{p:Prop}(h:p:=by simp at X):p:=h
def XY{p:Prop}(h:p:=by rw[hr,IntWalk.i64_in r hb];exact b):p:=h
def XZ{p:Prop}(h:p:=by rw[List.take_length,List.drop_zero]):p:=h
def Ya{p:Prop}(h:p:=by rw[i];rfl):p:=h
def Yb{p:Prop}(h:p:=by rw[Bool.eq_iff_iff];simp):p:=h
def Yc{p:Prop}(h:p:=by have:=Nat.le_of_ble_eq_true hn;omega):p:=h
def Yd{p:Prop}(h:p:=by simp only[wG,List.length_append,List.length_cons,List.length_nil];omega):p:=h
def Ye{p:Prop}(h:p:=by simp[aA,AV.K,aZ,AJ.K]):p:=h
def Yf{p:Prop}(h:p:=by simp[AV.K,aA,Ag.K,aR]):p:=h
theorem Yg{p:Prop}(h:p:=by simpa using f):p:=h
def Yh{p:Prop}(h:p:=by simp[eqGuard,Go.binOp,Op.intArith]):p:=h
theorem Yi{p:Prop}(h:p:=by simpa using e):p:=h
theorem Yj{p:Prop}(h:p:=by simpa using b):p:=h
def Yk{p:Prop}(h:p:=by simp[aA,Tbls.K,AV.K]):p:=h
def Yl{p:Prop}(h:p:=by simp[aM,AV.ab,gH,Tbls.C,dY]):p:=h
def Ym{p:Prop}(h:p:=by simp[aA,Tbls.K]):p:=h
theorem Yn{p:Prop}(h:p:=by rw[hp,pP a,if_neg (by simp[O])]):p:=h
def Yo{p:Prop}(h:p:=by unfold AP.size;omega):p:=h
def Yp{p:Prop}(h:p:=by rw[List.length_append,List.length_cons,List.length_nil];omega):p:=h
theorem Yq{p:Prop}(h:p:=by simp[hx]):p:=h
def Yr{p:Prop}(h:p:=by simp[aE,AV.ab]):p:=h
def Yt{p:Prop}(h:p:=by simp[aA,AV.K,Nd.K]):p:=h
def Yu{p:Prop}(h:p:=by simp[AV.K,aA,Af.K]):p:=h
def Yv{p:Prop}(h:p:=by simp[AV.K,aA,AR.K]):p:=h
theorem Yw{p:Prop}(h:p:=by show (eD (st.R++[[]])).length<=_;rw[tW];exact Nat.zero_le _):p:=h
def Yx{p:Prop}(h:p:=by simpa using bc j hj):p:=h
def Yy{p:Prop}(h:p:=by simp at X;omega):p:=h
def Yz{p:Prop}(h:p:=by rw[hp,b,if_neg (by simp[O])]):p:=h
def Y0{p:Prop}(h:p:=by have:=hT.a8.ag t ht;omega):p:=h
def Y1{p:Prop}(h:p:=by cases hx):p:=h
def Y2{p:Prop}(h:p:=by simp[flat]):p:=h
def Y3{p:Prop}(h:p:=by rw[v.bc];exact h):p:=h
def Y4{p:Prop}(h:p:=by have c:=aN (size:=Sl.size) hx;have d:=x.ay;omega):p:=h
theorem Y5{p:Prop}(h:p:=by simpa using q):p:=h
theorem Y6{p:Prop}(h:p:=by simpa [iD]using O):p:=h
def Y7{p:Prop}(h:p:=by rw[hk]at l;cases f<;>first|exact⟨_,rfl⟩|cases l):p:=h
def Y8{p:Prop}(h:p:=by rw[b,List.length_append];rfl):p:=h
def Y9{p:Prop}(h:p:=by rw[Nd.ch];rfl):p:=h
theorem YA{p:Prop}(h:p:=by rw[List.length_append];omega):p:=h
def YB{p:Prop}(h:p:=by simp only[bP,AH.ok,lW,lX,and_true];exact⟨rfl,rfl⟩):p:=h
theorem YC{p:Prop}(h:p:=by simp[i]):p:=h
def YD{p:Prop}(h:p:=by simp[AV.ab]):p:=h
def YE{p:Prop}(h:p:=by simp[AV.K,bH Ao.K]):p:=h
def YF{p:Prop}(h:p:=by rw[hb];rfl):p:=h
def YG{p:Prop}(h:p:=by simp[execOp,e,j,eqGuard,Go.binOp,h3,Result.andThen]):p:=h
def YH{p:Prop}(h:p:=by simp[aM,AV.ab,aD _ _ _ x.c1,aF _ _ _ x.K]):p:=h
def YI{p:Prop}(h:p:=by have:=hT.a8.len;omega):p:=h
def YJ{p:Prop}(h:p:=by simp[execOp,e1,c,HS hT,Go.binOp,h3,Result.andThen]):p:=h
def YK{p:Prop}(h:p:=by have:=Sx b n;have:=hb.le;unfold Af.size at *; omega):p:=h
def YL{p:Prop}(h:p:=by rw[b,List.map_append];rfl):p:=h
theorem YM{p:Prop}(h:p:=by rw[List.length_append];rfl):p:=h
def YN{p:Prop}(h:p:=by simp[eqGuard,Go.binOp,Op.shift,Int.not_lt.2 hn,hr]):p:=h
def YO{p:Prop}(h:p:=by simp only[eqGuard,Go.binOp,Op.intBits];rw[e];rfl):p:=h
def YP{p:Prop}(h:p:=by simp[AV.K,aA,AJ.K,AR.K,aR,aZ]):p:=h
def YQ{p:Prop}(h:p:=by rw[List.length_range,List.length_range];exact o):p:=h
def YR{p:Prop}(h:p:=by rw[List.length_range,List.length_range];exact n):p:=h
def YS{p:Prop}(h:p:=by rw[List.length_range,List.length_range];exact m):p:=h
theorem YT{p:Prop}(h:p:=by rw[aA,g];rfl):p:=h
def YU{p:Prop}(h:p:=by simp only[execOp,e];rfl):p:=h
theorem YV{p:Prop}(h:p:=by simp[v]):p:=h
theorem YW{p:Prop}(h:p:=by simp[h]):p:=h
def YX{p:Prop}(h:p:=by simp[-List.map_take,aM,AV.ab,aE,aF,AJ.K]):p:=h
def YY{p:Prop}(h:p:=by simp[-List.map_take, -List.map_map,aM,AV.ab,aE]):p:=h
def YZ{p:Prop}(h:p:=by rw[<-d.tk k (by simpa [AV.ab]using O)];exact hr):p:=h
def Za{p:Prop}(h:p:=by simp[aE,AV.ab,aF,Ac.K,AH.K,aD,aZ]):p:=h
def Zb{p:Prop}(h:p:=by rw[if_pos (Or.inr c)]at O;dsimp only at O;omega):p:=h
def Zc{p:Prop}(h:p:=by have:=aJ AF.au d.args;unfold AO.size;omega):p:=h
def Zd{p:Prop}(h:p:=by simp[aQ,aL,Ob.ab,Tok.ab,aE,AV.ab,fF,pT]):p:=h
def Ze{p:Prop}(h:p:=by simp[Program.cellsOf,h]):p:=h
def Zf{p:Prop}(h:p:=by simp[AV.K,aA,eC,Ah.K,AH.K]):p:=h
theorem Zg{p:Prop}(h:p:=by rw[c];decide):p:=h
def Zh{p:Prop}(h:p:=by rw[a5];rfl):p:=h
def Zi{p:Prop}(h:p:=by rw[AH.bb]):p:=h
def Zj{p:Prop}(h:p:=by simp[aA,Tbls.K,AV.K,Row.K]):p:=h
def Zk{p:Prop}(h:p:=by simp[IntKind.wrap,IntKind.bits,IntKind.signed]):p:=h
def Zl{p:Prop}(h:p:=by unfold AJ.size;omega):p:=h
def Zm{p:Prop}(h:p:=by show 4000<=4000+2001 * min 1 410;decide):p:=h
def Zn{p:Prop}(h:p:=by rw[he,List.length_map]):p:=h
def Zo{p:Prop}(h:p:=by rw[a,List.map_append,List.length_append];rfl):p:=h
def Zp{p:Prop}(h:p:=by unfold eP;congr 1;rw[decide_eq_decide];simp):p:=h
theorem Zq{p:Prop}(h:p:=by simpa using O):p:=h
def Zr{p:Prop}(h:p:=by simp[X];rfl):p:=h
def Zs{p:Prop}(h:p:=by rw[a];omega):p:=h
def Zt{p:Prop}(h:p:=by rw[<-pW h];exact b x (by simp[Op.operands])):p:=h
def Zu{p:Prop}(h:p:=by simp[AV.K,aR]):p:=h
def Zv{p:Prop}(h:p:=by simp[AV.K,aA,AH.K,Tbls.K]):p:=h
def Zw{p:Prop}(h:p:=by rw[Nat.add_mul];omega):p:=h
def Zx{p:Prop}(h:p:=by rw[List.length_map,h]):p:=h
def Zy{p:Prop}(h:p:=by rw[List.drop_zero,List.take_of_length_le om]):p:=h
def Zz{p:Prop}(h:p:=by simp[aQ,Ob.ab,aE,AV.ab,Tbls.C,dY]):p:=h
def Z0{p:Prop}(h:p:=by have:=e x;have:=e1 x;have:=a x;omega):p:=h
theorem Z1{p:Prop}(h:p:=by simp[e]):p:=h
def Z2{p:Prop}(h:p:=by rw[dW,if_neg (by rw[c];decide)];rfl):p:=h
def Z3{p:Prop}(h:p:=by have:=h.le;omega):p:=h
def Z4{p:Prop}(h:p:=by unfold kH;rw[m];simp only;rw[if_pos a]):p:=h
def Z5{p:Prop}(h:p:=by simp only[AV.K,v.bs];rfl):p:=h
def Z6{p:Prop}(h:p:=by simp only[AV.K,v.bp];rfl):p:=h
def Z7{p:Prop}(h:p:=by simp[plE,aE,AV.ab,dG,aD _ _ _ (dM p)]):p:=h
def Z8{p:Prop}(h:p:=by simp[eqGuard,Go.binOp,Op.intDiv,hn,hr]):p:=h
theorem om{p:Prop}(h:p:=by omega):p:=h
open Go
inductive Tk where
  |no|full|nil|nn
  |own (k sz:Nat)
inductive AV where
  |undef
  |bool (b:Bool)
  |int (k:IntKind) (n:Int)
  |str (s:List UInt8)
  |agg (cs:List AV)
  |tup (cs:List AV)
  |slice (xs:List AV) (t:Tk)
  |ptr (i off:Nat)
  |ac (x:AV)
  |nilp
  |praw (a:Addr)
  |fn (f:Fn) (first cap:List AV)
  |nilfn
  |iface (t:TypeId) (v:AV)
  |nili
  |map (i:Nat)
  |nilmap
  |iter (i:Nat)
  |view (xs:List AV) (n:Nat)
  |aa (k z n lo X:Nat)
  |ao (k z n j off:Nat)
structure A8 where
  base:Option Addr
  n:Nat
  cap:Nat
  sz:Nat
  lo:Nat
def A8.a1(r:A8)(b o:Nat):Prop:=∃p:Addr,r.base=some p/\p.block=b/\p.off+r.lo * r.sz<=o/\o<p.off+r.cap * r.sz
structure Gh where
  bx:List Nat
  tk:List A8
  im:Nat->Nat->Prop
def CH(g:Gh)(sz:Nat)(a:Option Addr)(len cap:Nat):Tk->Prop
  | .no=>True
  | .full=>len=cap
  | .nil=>a=none/\cap=0
  | .nn=>a≠none
  | .own k z=>(sz=z\/len=0)/\∃r,g.tk[k]? =some r/\r.sz=z/\len<=r.n/\(len=r.n->r.base=a/\r.cap=cap/\(cap=0\/∀p:Addr,a=some p->p.spot=none))
def BZ(g:Gh)(w:World)(b o:Nat)(V:Value):Prop:=
  ∀(j:Nat) (u:Value),V.cells[j]? =some u->g.im b (o+j)/\w.cell? ⟨b,o+j,none⟩=some u/\u.oneCell'= true
def A9(g:Gh)(w:World)(b sz o:Nat)(Vs:List Value):Prop:=
  ∀(i:Nat) (V:Value),Vs[i]? =some V->V.cells.size=sz/\BZ g w b (o+i * sz) V
mutual
def Aa(g:Gh)(w:World):AV->Value->Prop
  | .undef,_=>True
  | .bool b,v=>v = .bool b
  | .int k n,v=>v = .int k n
  | .str s,v=>v = .string ⟨s.toArray⟩
  | .agg cs,v=>∃vs:Array Value,v = .agg vs/\AM g w cs vs.toList/\∀u∈vs.toList,u.oneCell'= true
  | .tup cs,v=>∃vs:Array Value,v = .tuple vs/\AM g w cs vs.toList
  | .slice xs t,v=>∃(a:Option Addr) (cap sz:Nat) (Vs:List Value),v = .slice a Vs.length cap/\Vs.length<=cap/\cap<=maxLen/\
      CH g sz a Vs.length cap t/\AM g w xs Vs/\(a=none->Vs=[]/\cap=0)/\
      ∀p:Addr,a=some p->(p.spot=none\/Vs=[])/\A9 g w p.block sz p.off Vs
  | .ptr i off,v=>∃b,g.bx[i]? =some b/\v = .pointer (some ⟨b,off,none⟩)
  | .ac x,v=>∃b o V,v = .pointer (some ⟨b,o,none⟩)/\BZ g w b o V/\Aa g w x V
  | .nilp,v=>v = .pointer none
  | .praw a,v=>v = .pointer (some a)
  | .fn f fs cs,v=>∃vs ws:Array Value,v = .func f vs ws/\AM g w fs vs.toList/\AM g w cs ws.toList
  | .nilfn,v=>v = .nilFunc
  | .iface t x,v=>∃u,v = .iface t u/\Aa g w x u
  | .nili,v=>v = .nilIface
  | .map i,v=>∃b,g.bx[i]? =some b/\v = .map (some b)
  | .nilmap,v=>v = .map none
  | .iter i,v=>∃b,g.bx[i]? =some b/\v = .pointer (some ⟨b,0,none⟩)
  | .view xs n,v=>∃(a:Option Addr) (cap sz:Nat) (Vs:List Value),v = .slice a n cap/\n<=Vs.length/\Vs.length<=cap/\cap<=maxLen/\AM g w xs Vs/\(a=none->Vs=[]/\cap=0)/\
      ∀p:Addr,a=some p->(p.spot=none\/Vs=[])/\A9 g w p.block sz p.off Vs
  | .aa k z n lo X,v=>∃(a:Option Addr) (cap:Nat),v = .slice a (X-lo) (cap-lo)/\lo<=X/\X<=n/\n<=cap/\cap<=maxLen/\(lo<cap->∃b o,a=some ⟨b,o,none⟩)/\∃r,g.tk[k]? =some r/\r.sz=z/\n<=r.n/\
      (n=r.n->r.lo=0/\r.cap=cap/\(lo<cap->∃p,r.base=some p/\p.spot=none/\a=some ⟨p.block,p.off+lo * z,none⟩))
  | .ao k z n j off,v=>∃b o,v = .pointer (some ⟨b,o,none⟩)/\j<n/\∃r,g.tk[k]? =some r/\r.sz=z/\n<=r.n/\
      (n=r.n->r.lo=0/\∃p,r.base=some p/\p.spot=none/\b=p.block/\o=p.off+j * z+off)
def AM(g:Gh)(w:World):List AV->List Value->Prop
  |[],vs=>vs=[]
  |c::cs,vs=>∃v C,vs=v::C/\Aa g w c v/\AM g w cs C
end
structure Le(g:Gh)(w:World)(g': Gh)(w': World):Prop where
  im:∀b o,g.im b o->g'.im b o/\w'.cell? ⟨b,o,none⟩=w.cell? ⟨b,o,none⟩
  bx:∀(i b:Nat),g.bx[i]? =some b->g'.bx[i]? =some b
  tk:∀(k:Nat) (r:A8),g.tk[k]? =some r->∃r', g'.tk[k]? =some r'/\ (r'= r\/(r.n<r'.n/\r'.sz=r.sz))
def Tw(g:Gh)(w:World):Le g w g w:=⟨λ_ _ h=>⟨h,rfl⟩,λ_ _ h=>h,λ_ r h=>⟨r,h, .inl rfl⟩⟩
theorem Le.trans{g g' a:Gh}{w w' c:World}(h:Le g w g' w')(k:Le g' w' a c):Le g w a c where
  im b o X:=⟨(k.im b o (h.im b o X).1).1,(k.im b o (h.im b o X).1).2.trans (h.im b o X).2⟩;bx i b X:=k.bx i b (h.bx i b X);tk i r X:=by obtain⟨r', d,f⟩:=h.tk i r X;obtain⟨e,h3,h4⟩:=k.tk i r' d;grind
section
variable {g g': Gh} {w w': World}
theorem BZ.mono(h:Le g w g' w'){b o:Nat}{V:Value}(d:BZ g w b o V):BZ g' w' b o V:=λj u hj=>let ⟨a,c,h3⟩:=d j u hj;⟨(h.im _ _ a).1,(h.im _ _ a).2.trans c,h3⟩
theorem A9.mono(h:Le g w g' w'){b sz o:Nat}{Vs:List Value}(a:A9 g w b sz o Vs):A9 g' w' b sz o Vs:=λi V X=>⟨(a i V X).1,(a i V X).2.mono h⟩
theorem CH.mono(h:Le g w g' w'){sz:Nat}{a:Option Addr}{len cap:Nat}{t:Tk}(ht:CH g sz a len cap t):CH g' sz a len cap t:=by
  cases t with
  |no=>exact ht
  |full=>exact ht
  |nil=>exact ht
  |nn=>exact ht
  |own k z=>
    obtain⟨h0,r,b,hz,c,h3⟩:=ht;obtain⟨r', h4,d⟩:=h.tk k r b;refine⟨h0,r', h4, ?_, ?_, ?_⟩
    · grind
    · grind
    · grind
mutual
theorem Aa.mono(h:Le g w g' w'):∀(x:AV) (v:Value),Aa g w x v->Aa g' w' x v
  | .undef,_,_=>trivial
  | .bool _,_,d=>d
  | .int _ _,_,d=>d
  | .str _,_,d=>d
  | .agg cs,_,⟨vs,e,l,c⟩=>⟨vs,e,AM.mono h cs _ l,c⟩
  | .tup cs,_,⟨vs,e,l⟩=>⟨vs,e,AM.mono h cs _ l⟩
  | .slice xs _,_,⟨a,cap,sz,Vs,e,c,f,h3,h4,k,i⟩=>⟨a,cap,sz,Vs,e,c,f,h3.mono h,AM.mono h xs _ h4,k,λp hp=>⟨(i p hp).1,(i p hp).2.mono h⟩⟩
  | .ptr _ _,_,⟨b,c,e⟩=>⟨b,h.bx _ _ c,e⟩
  | .ac x,_,⟨b,o,V,e,c,f⟩=>⟨b,o,V,e,c.mono h,Aa.mono h x _ f⟩
  | .nilp,_,d=>d
  | .praw _,_,d=>d
  | .fn _ m cs,_,⟨vs,ws,e,c,f⟩=>⟨vs,ws,e,AM.mono h m _ c,AM.mono h cs _ f⟩
  | .nilfn,_,d=>d
  | .iface _ x,_,⟨u,e,c⟩=>⟨u,e,Aa.mono h x _ c⟩
  | .nili,_,d=>d
  | .map _,_,⟨b,c,e⟩=>⟨b,h.bx _ _ c,e⟩
  | .nilmap,_,d=>d
  | .iter _,_,⟨b,c,e⟩=>⟨b,h.bx _ _ c,e⟩
  | .view xs _,_,⟨a,cap,sz,Vs,e,h0,c,f,h4,k,i⟩=>⟨a,cap,sz,Vs,e,h0,c,f,AM.mono h xs _ h4,k,λp hp=>⟨(i p hp).1,(i p hp).2.mono h⟩⟩
  | .aa _ _ _ _ _,_,⟨a,cap,e,c,f,h3,h4,k,r,hr,hz,hn,i⟩=>by
    obtain⟨r', j,n⟩:=h.tk _ r hr;refine⟨a,cap,e,c,f,h3,h4,k,r', j, ?_, ?_, ?_⟩
    · grind
    · grind
    · grind
  | .ao _ _ _ _ _,_,⟨b,o,e,hj,r,hr,hz,hn,i⟩=>by
    obtain⟨r', j,n⟩:=h.tk _ r hr;refine⟨b,o,e,hj,r', j, ?_, ?_, ?_⟩
    · grind
    · grind
    · grind
theorem AM.mono(h:Le g w g' w'):∀(cs:List AV) (vs:List Value),AM g w cs vs->AM g' w' cs vs
  |[],_,d=>d
  |c::cs,_,⟨v,C,e,a,b⟩=>⟨v,C,e,Aa.mono h c _ a,AM.mono h cs _ b⟩
end
theorem AM.length:∀ {cs:List AV} {vs:List Value},AM g w cs vs->vs.length=cs.length
  |[],_,h=>by simp[show _=[] from h]
  |_::cs,_,⟨_,_,e,_,a⟩=>by subst e;simp[AM.length a]
theorem AM.get:∀ {cs:List AV} {vs:List Value} {i:Nat} {c:AV},AM g w cs vs->cs[i]? =some c->∃v,vs[i]? =some v/\Aa g w c v
  |c::_,_,0,_,⟨v,C,e,a,_⟩,X=>by subst e;simp at X;subst X;exact⟨v,rfl,a⟩
  |_::cs,_,i+1,_,⟨v,C,e,_,b⟩,X=>by subst e;simpa using AM.get b Xt
theorem AM.nil:AM g w [] []:=rfl
theorem AM.cons{c:AV}{cs:List AV}{vs:List Value}(h:Aa g w c v)(hs:AM g w cs vs):AM g w (c::cs) (v::vs):=⟨v,vs,rfl,h,hs⟩
def AM.append:∀ {cs a:List AV} {vs us:List Value},AM g w cs vs->AM g w a us->AM g w (cs++a) (vs++us)
  |[],_,_,_,h,k=>by rw[show _=[] from h];exact k
  |_::_,_,_,_,⟨v,C,e,b,c⟩,k=>by subst e;exact⟨v,C++_,rfl,b,c.append k⟩
theorem AM.take:∀ {cs:List AV} {vs:List Value} (n:Nat),AM g w cs vs->AM g w (cs.take n) (vs.take n)
  |[],_,n,h=>by rw[show _=[] from h];simp[AM.nil]
  |_::_,_,0,_=>by simp[AM.nil]
  |_::_,_,n+1,⟨v,C,e,a,b⟩=>by subst e;exact⟨v,C.take n,rfl,a,b.take n⟩
theorem AM.drop:∀ {cs:List AV} {vs:List Value} (n:Nat),AM g w cs vs->AM g w (cs.drop n) (vs.drop n)
  |[],_,n,h=>by rw[show _=[] from h];simp[AM.nil]
  |_::_,_,0,h=>h
  |_::_,_,n+1,⟨v,C,e,b,a⟩=>by subst e;exact a.drop n
theorem AM.set:∀ {cs:List AV} {vs:List Value} {c:AV} {v:Value} (i:Nat),AM g w cs vs->Aa g w c v->AM g w (cs.set i c) (vs.set i v)
  |[],_,_,_,i,h,_=>by rw[show _=[] from h];simp[AM.nil]
  |_::_,_,_,_,0,⟨v,C,e,b,a⟩,k=>by subst e;exact⟨_,C,rfl,k,a⟩
  |_::_,_,_,_,i+1,⟨v,C,e,b,a⟩,k=>by subst e;exact⟨v,_,rfl,b,a.set i k⟩
end
class AL where
  table:List (Nat×AV)
  /-- How many cells such a variable has. -/
  ends:List (Nat×Nat)
def Aq[AL](im:Nat->Nat->Prop)(w:World):Prop:=(∀p∈AL.table,Aa ⟨[],[],im⟩ w (.ac p.2) (.pointer (some ⟨p.1,0,none⟩)))/\∀p∈AL.ends,im p.1 p.2/\w.cell? ⟨p.1,p.2,none⟩=none
theorem Aq.mono[AL]{im a:Nat->Nat->Prop}{w w': World}(h:∀b o,im b o->a b o/\w'.cell? ⟨b,o,none⟩=w.cell? ⟨b,o,none⟩)(c:Aq im w):Aq a w':= ⟨λp hp=>Aa.mono ⟨h,λ_ _ h=>Wp,λ_ _ h=>Wp⟩ _ _ (c.1 p hp),λp hp=>⟨(h _ _ (c.2 p hp).1).1,(h _ _ (c.2 p hp).1).2.trans (c.2 p hp).2⟩⟩
theorem Aq.le[AL]{g g': Gh}{w w': World}(h:Le g w g' w')(a:Aq g.im w):Aq g'.im w':= a.mono h.im
theorem Aq.a6[AL]{g:Gh}{w:World}(a:Aq g.im w){p:Nat×AV}(hp:p∈AL.table):Aa g w (.ac p.2) (.pointer (some ⟨p.1,0,none⟩)):=
  Aa.mono (g:=⟨[],[],g.im⟩) (w:=w) (g':= g) (w':= w) ⟨λ_ _ h=>⟨h,rfl⟩,λ_ _ h=>Wp,λ_ _ h=>Wp⟩ _ _ (a.1 p hp)
def Je:List (Nat×AV)->Nat->Option AV
  |[],_=>none
  |(t,i)::l,u=>bif Nat.beq t u then some (.ac i) else Je l u
def Kf:∀ {l:List (Nat×AV)} {u:Nat} {x:AV},Je l u=some x->∃y,x = .ac y/\(u,y)∈l
  |(t,i)::l,u,x,h=>by
    unfold Je at h;cases e:Nat.beq t u with
    |true=>rw[e]at h;have:=Nat.eq_of_beq_eq_true e;grind
    |false=>rw[e]at h;obtain⟨y,a,b⟩:=Kf (l:=l) Wu;simp_all
inductive Ob where
  |cells (cs:List AV)
  |map (es:List (AV×AV))
  |iter (s:List UInt8) (D:Nat)
inductive Tok where
  |len (n:Nat)
  |aa (xs:List AV)
structure St where
  B:List Ob
  T:List Tok
abbrev Bq(w:World)(b sz o:Nat)(Vs:List Value):Prop:=A9 ⟨[],[],λ_ _=>True⟩ w b sz o Vs
def A6(g:Gh)(w:World)(r:A8):Tok->Prop
  | .len n=>r.n=n/\r.lo=n
  | .aa xs=>r.n=xs.length/\r.lo=0/\r.n<=r.cap/\∃Vs,AM g w xs Vs/\(r.base=none->Vs=[])/\(∀V∈Vs,V.cells.size=r.sz)/\
      ∀p:Addr,r.base=some p->(p.spot=none\/r.cap=0)/\Bq w p.block r.sz p.off Vs
theorem A6.mono{g g': Gh}{w w': World}(h:Le g w g' w'){r:A8}(O:∀b o,r.a1 b o->w'.cell? ⟨b,o,none⟩=w.cell? ⟨b,o,none⟩){t:Tok}(ht:A6 g w r t):A6 g' w' r t:=by
  cases t with
  |len n=>exact ht
  |aa xs=>
    obtain⟨k,c,h3,Vs,h4,l,m,a⟩:=ht;refine⟨k,c,h3,Vs,AM.mono h _ _ h4,l,m,λp hp=>⟨(a p hp).1,λi V X=>⟨((a p hp).2 i V X).1,λj u hj=> ?_⟩⟩⟩;obtain⟨e1,d⟩:=(a p hp).2 i V X;obtain⟨_,e,f⟩:=d j u hj;refine⟨trivial,(O _ _ ⟨p,hp,rfl, ?_, ?_⟩).trans e,f⟩
    · rw[c];omega
    · have v:j<r.sz:=by have:=(Array.getElem?_eq_some_iff.1 hj).1;omega
      have q:i<xs.length:=by have:=(List.getElem?_eq_some_iff.1 X).1;rw[h4.length]at this;exact this
      have:(i+1) * r.sz<=r.cap * r.sz:=Nat.mul_le_mul_right _ om;grind
def As(g:Gh)(w:World):List (AV×AV)->List MapEntry->Prop
  |[],es=>es=[]
  |(k,v)::l,es=>∃e C,es=e::C/\Aa g w k e.key/\Aa g w v e.val/\As g w l C
def BJ(g:Gh)(w:World)(b:Nat):Ob->Prop
  | .cells cs=>∃(J:Array Value) (R:TypeId),w.heap[b]? =some (.cells J R (0,0))/\AM g w cs J.toList/\∀u∈J.toList,u.oneCell'= true
  | .map es=>∃(ents:Array MapEntry) (clock:Nat),w.heap[b]? =some (.map ents clock)/\As g w es ents.toList
  | .iter s D=>w.heap[b]? =some (.stringIter ⟨s.toArray⟩ D)
theorem As.mono{g g': Gh}{w w': World}(h:Le g w g' w'):∀(l:List (AV×AV)) (es:List MapEntry),As g w l es->As g' w' l es
  |[],_,c=>c
  |(_,_)::l,_,⟨e,C,he,a,b,h3⟩=>⟨e,C,he,Aa.mono h _ _ a,Aa.mono h _ _ b,As.mono h l _ h3⟩
theorem BJ.mono{g g': Gh}{w w': World}(h:Le g w g' w'){b:Nat}{ob:Ob}(hb:w'.heap[b]? =w.heap[b]?)(f:BJ g w b ob):BJ g' w' b ob:=by
  cases ob with
  |cells cs=>obtain⟨J,R,d,e,h3⟩:=f;exact⟨J,R,hb.trans d,AM.mono h _ _ e,h3⟩
  |map es=>obtain⟨c,a,d,e⟩:=f;exact⟨c,a,hb.trans d,As.mono h _ _ e⟩
  |iter s D=>exact hb.trans f
theorem BJ.lt{g:Gh}{w:World}{b:Nat}{ob:Ob}(d:BJ g w b ob):b<w.heap.size:=by
  have:∃x,w.heap[b]? =some x:=by
    cases ob with
    |cells cs=>obtain⟨J,R,c,_⟩:=d;exact⟨_,c⟩
    |map es=>obtain⟨e,a,c,_⟩:=d;exact⟨_,c⟩
    |iter s D=>exact⟨_,d⟩
  grind
structure Inv[AL](g:Gh)(H:St)(w:World):Prop where
  lenB:g.bx.length=H.B.length
  lenT:g.tk.length=H.T.length
  ob:∀(i b:Nat) (ob:Ob),g.bx[i]? =some b->H.B[i]? =some ob->BJ g w b ob
  nodup:g.bx.Nodup
  noim:∀b,b∈g.bx->∀o,¬g.im b o
  tok:∀(k:Nat) (t:Tok) (r:A8),g.tk[k]? =some r->H.T[k]? =some t->A6 g w r t
  tkz:∀(k:Nat) (r:A8),g.tk[k]? =some r->∀b o,r.a1 b o->¬g.im b o/\b∉g.bx/\(∃v,w.cell? ⟨b,o,none⟩=some v)/\w.frozen? ⟨b,o,none⟩=false
  tkd:∀(k k': Nat) (r r': A8),k≠k'-> g.tk[k]? =some r->g.tk[k']? =some r'-> ∀b o,r.a1 b o->¬r'.a1 b o
  imlt:∀b o,g.im b o->b<w.heap.size
  gl:Aq g.im w
structure Ar(g:Gh)(w:World)(g': Gh)(w': World):Prop where
  le:Le g w g' w'
  size:w.heap.size<=w'.heap.size
  os:w'.os=w.os
  tape:w'.tape=w.tape
  output:w'.output=w.output
  fr:∀b,b<w.heap.size->b∉g.bx->(∀(k:Nat) (r:A8),g.tk[k]? =some r->∀o,¬r.a1 b o)->w'.heap[b]? =w.heap[b]?
  frc:∀b o,b<w.heap.size->b∉g.bx->(∀(k:Nat) (r:A8),g.tk[k]? =some r->¬r.a1 b o)->w'.cell? ⟨b,o,none⟩=w.cell? ⟨b,o,none⟩/\w'.frozen? ⟨b,o,none⟩=w.frozen? ⟨b,o,none⟩
  newim:∀b o,g'.im b o->g.im b o\/w.heap.size<=b\/∃(k:Nat) (r:A8),g.tk[k]? =some r/\r.a1 b o
  newbx:∀b,b∈g'.bx->b∈g.bx\/w.heap.size<=b
  newz:∀(k:Nat) (r': A8),g'.tk[k]? =some r'-> ∀b o,r'.a1 b o->w.heap.size<=b\/∃r,g.tk[k]? =some r/\r.a1 b o
def eV(g:Gh)(w:World):Ar g w g w:=
  ⟨Tw g w,le_refl _,rfl,rfl,rfl,λ_ _ _ _=>rfl,λ_ _ _ _ _=>⟨rfl,rfl⟩,λ_ _ h => .inl h,λ_ h => .inl h,λ_ r h _ _ hz => .inr ⟨r,h,hz⟩⟩
theorem Ar.trans{g c e:Gh}{w:World}(h:Ar g w c j)(k:Ar c j e l):Ar g w e l where
  le:=h.le.trans k.le;size:=le_trans h.size k.size;os:=k.os.trans h.os;tape:=k.tape.trans h.tape;output:=k.output.trans h.output;fr b hb hn hz:=by
    have a:b∉c.bx:=λhm=>(h.newbx b hm).elim hn (λhs=>om)
    refine(k.fr b (Nat.lt_of_lt_of_le hb h.size) a (λi r hr o d=> ?_)).trans (h.fr b hb hn hz);rcases h.newz i r hr b o d with hs|⟨r0,h0,hz0⟩
    · omega
    · grind
  frc b o hb hn hz:=by
    have a:b∉c.bx:=λhm=>(h.newbx b hm).elim hn (λhs=>om)
    have f:=h.frc b o hb hn hz;have m:=k.frc b o (Nat.lt_of_lt_of_le hb h.size) a (λi r hr d=>by
      rcases h.newz i r hr b o d with hs|⟨r0,h0,hz0⟩
      · omega
      · exact hz i r0 h0 hz0)
    simp_all
  newim b o X:=by
    rcases k.newim b o X with X|hs|⟨i,r,hr,hz⟩
    · exact h.newim b o X
    · exact .inr (.inl (le_trans h.size hs))
    · rcases h.newz i r hr b o hz with hs|⟨r0,h0,hz0⟩
      · omega
      · grind
  newbx b hm:=by
    rcases k.newbx b hm with hm|hs
    · exact h.newbx b hm
    · exact .inr (le_trans h.size hs)
  newz i r' hr b o hz:=by
    rcases k.newz i r' hr b o hz with hs|⟨r1,f,hz1⟩
    · exact .inl (le_trans h.size hs)
    · exact h.newz i r1 f b o hz1
def Ar.drew(g:Gh)(w:World)(n:Nat):Ar g w g { w with drawn:=n }:=
  ⟨⟨λ_ _ h=>⟨h,rfl⟩,λ_ _ h=>h,λ_ r h=>⟨r,h, .inl rfl⟩⟩,le_refl _,rfl,rfl,rfl,λ_ _ _ _=>rfl,λ_ _ _ _ _=>⟨rfl,rfl⟩,λ_ _ h => .inl h,λ_ h => .inl h,λ_ r h _ _ hz => .inr ⟨r,h,hz⟩⟩
def Inv.drew[AL]{g:Gh}{H:St}{w:World}(h:Inv g H w)(n:Nat):Inv g H { w with drawn:=n } where
  lenB:=h.lenB;lenT:=h.lenT;ob i b ob h1 h2:=(h.ob i b ob h1 h2).mono (w':= { w with drawn:=n }) (Ar.drew g w n).le rfl;nodup:=h.nodup;noim:=h.noim;tok k t r h1 h2:=(h.tok k t r h1 h2).mono (w':= { w with drawn:=n }) (Ar.drew g w n).le λ_ _ _=>rfl
  tkz:=h.tkz;tkd:=h.tkd;imlt:=h.imlt;gl:=Aq.le (Ar.drew g w n).le h.gl
def Inv.cz[AL]{g:Gh}{H:St}{w:World}(h:Inv g H w){k n:Nat}{r:A8}(a:g.tk[k]? =some r)(b:H.T[k]? =some (.len n)):r.n=n/\r.lo=n:=h.tok k _ r a b
abbrev AE:=List (Nat×AV)
def lk:AE->Nat->AV
  |[],_ => .undef
  |(t,v)::s,u=>bif Nat.beq t u then v else lk s u
def A3(g:Gh)(w:World)(s:AE)(tmps:Array Value):Prop:=∀t,Aa g w (lk s t) (tmps.getD t undef)
theorem A3.mono{g g': Gh}{w w': World}(h:Le g w g' w'){s:AE}(hs:A3 g w s tmps):A3 g' w' s tmps:=λt=>Aa.mono h _ _ (hs t)
theorem A3.put{g:Gh}{w:World}{s:AE}{d:Nat}{v:AV}{u:Value}(hs:A3 g w s a.tmps)(b:d<a.tmps.size)(c:Aa g w v u):
    A3 g w ((d,v)::s) (a.put (some d) u).tmps:=by
  intro t;unfold lk;by_cases e:d=t
  · subst e;simp[Act.put,b,c]
  · have hb:Nat.beq d t=false:=by
      cases h:Nat.beq d t with
      |false=>rfl
      |true=>exact absurd (Nat.eq_of_beq_eq_true h) e
    rw[hb];simpa [Act.put,Array.getElem?_setIfInBounds,e]using hs t
def yX:Value->AV
  | .bool b => .bool b
  | .int k n => .int k n
  | .string s => .str s.data.toList
  | .pointer none => .nilp
  | .slice none 0 0 => .slice [] .nil
  | .map none => .nilmap
  | .nilFunc => .nilfn
  | .nilIface => .nili
  |_ => .undef
def qL:Value->AV
  | .agg cs=>bif cs.toList.all (·.oneCell') then .agg (cs.toList.map yX) else .undef
  |v=>yX v
def ev[AL](s:AE):Operand->AV
  | .tmp t=>lk s t
  | .const v=>qL v
  | .global g=>(Je AL.table g).getD .undef
  | .func f => .fn (.func f) [] []
def jQ(g:Gh)(w:World)(v:Value):Aa g w (yX v) v:=by
  cases v with
  |bool b=>rfl
  |int k n=>rfl
  |string s=>show _=_;cases s;simp
  |pointer a=>cases a<;>first|rfl|trivial
  |slice a l c=>
    cases a with
    |some a=>trivial
    |none=>
      cases l with
      |succ l=>trivial
      |zero=>
        cases c with
        |succ c=>trivial
        |zero=>exact⟨none,0,0,[],rfl,le_refl _,by simp[maxLen],⟨rfl,rfl⟩,rfl,λ_=>⟨rfl,rfl⟩,λp hp=>Xz⟩
  |map r=>cases r<;>first|rfl|trivial
  |_=>first|rfl|trivial
def Em(g:Gh)(w:World):∀vs:List Value,AM g w (vs.map yX) vs
  |[]=>rfl
  |v::vs=>⟨v,vs,rfl,jQ g w v,Em g w vs⟩
def kM(g:Gh)(w:World)(v:Value):Aa g w (qL v) v:=by
  cases v with
  |agg cs=>
    simp only[qL];cases h:cs.toList.all (·.oneCell') with
    |false=>trivial
    |true=>exact⟨cs,rfl,Em g w _,all_eq_true.1 h⟩
  |bool b=>exact jQ g w (.bool b)
  |int k n=>exact jQ g w (.int k n)
  |string s=>exact jQ g w (.string s)
  |pointer p=>exact jQ g w (.pointer p)
  |slice p l c=>exact jQ g w (.slice p l c)
  |map r=>exact jQ g w (.map r)
  |nilFunc=>exact jQ g w .nilFunc
  |nilIface=>exact jQ g w .nilIface
  |_=>trivial
def FB[AL]{g:Gh}{w:World}(a:Aq g.im w)(i:Nat):Aa g w ((Je AL.table i).getD .undef) (.pointer (some ⟨i,0,none⟩)):=by
  cases h:Je AL.table i with
  |none=>trivial
  |some x=>obtain⟨y,rfl,b⟩:=Kf h;exact a.a6 b
def FC[AL]{g:Gh}{w:World}{s:AE}(b:Aq g.im w)(hs:A3 g w s a.tmps)(x:Operand):Aa g w (ev s x) (a.eval x):=by
  cases x with
  |tmp t=>exact hs t
  |const v=>exact kM g w v
  |global i=>exact FB b i
  |func f=>exact⟨#[], #[],rfl,rfl,rfl⟩
def AU[AL](P:Program)(o:Oper)(s:AE)(H Y:St)(v:AV):Prop:=
  ∀(g:Gh) (w:World) (a:Act) (next:Act->World->Prop) (Q:Exit->Act->World->Prop),Inv g H w->(∀x,x∈o.op.operands.toList->Aa g w (ev s x) (a.eval x))->
    (∀u w' g', Ar g w g' w'-> Inv g' Y w'-> Aa g' w' v u->next (a.put o.dst u) w')->o.wp P a w next Q
inductive Aj where
  |pure|rb|wb|tk|all|rt
  |ri (i:Nat)
  |wi (i:Nat)
  deriving DecidableEq
def AZ[AL](t:Aj)(P:Program)(o:Oper)(s:AE)(H Y:St)(v:AV):Prop:=
  match t with
  | .pure=>Y=H/\∀τ,AU P o s τ τ v
  | .rb=>Y=H/\∀T,AU P o s ⟨H.B,T⟩ ⟨H.B,T⟩ v
  | .wb=>Y.T=H.T/\∀T,AU P o s ⟨H.B,T⟩ ⟨Y.B,T⟩ v
  | .tk=>Y.B=H.B/\∀B,AU P o s ⟨B,H.T⟩ ⟨B,Y.T⟩ v
  | .all=>AU P o s H Y v
  | .rt=>Y=H/\∀B,AU P o s ⟨B,H.T⟩ ⟨B,H.T⟩ v
  | .ri i=>Y=H/\∀(B:List Ob) (T:List Tok),B[i]? =H.B[i]? ->AU P o s ⟨B,T⟩ ⟨B,T⟩ v
  | .wi i=>∃ob,Y=⟨H.B.set i ob,H.T⟩/\∀(B:List Ob) (T:List Tok),B[i]? =H.B[i]? ->AU P o s ⟨B,T⟩ ⟨B.set i ob,T⟩ v
def AZ.step[AL]{t:Aj}{P:Program}{s:AE}{H Y:St}{v:AV}(h:AZ t P o s H Y v):AU P o s H Y v:=by
  cases t with
  |pure=>obtain⟨rfl,h⟩:=h;exact h _
  |rb=>obtain⟨rfl,h⟩:=h;exact h _
  |wb=>obtain⟨e,h⟩:=h;cases H;cases Y;simp_all
  |tk=>obtain⟨e,h⟩:=h;cases H;cases Y;simp_all
  |all=>exact h
  |rt=>obtain⟨rfl,h⟩:=h;exact h _
  |ri i=>obtain⟨rfl,h⟩:=h;exact h _ _ rfl
  |wi i=>obtain⟨ob,rfl,h⟩:=h;exact h _ _ rfl
variable [AL]
def iG(d:Option Tmp)(v:AV)(s:AE):AE:=
  match d with
  |some d=>(d,v)::s
  |none=>s
def A5(A:Array Oper)(s:AE)(o:Oper)(b:Bool):Prop:=
  match o.guard with
  |none=>b=true
  |some (j,want)=>∃d,(A[j]?).bind (·.dst)=some d/\((∃x,lk s d = .bool x/\(x==want)=b)\/(lk s d = .tup []/\b=false))
inductive AX where
  |normal|exit (id:Nat)|goto (l:Nat)|ret
  |pan (x:AV)
def Aj.wB:Aj->Bool
  | .wb | .all=>true
  |_=>false
def Aj.rB:Aj->Bool
  | .rb | .wb | .all=>true
  | .ri _ | .wi _=>true
  |_=>false
def Aj.wT:Aj->Bool
  | .tk | .all=>true
  |_=>false
def Aj.rT:Aj->Bool
  | .tk | .all | .rt=>true
  |_=>false
def Aj.one:Aj->Aj->Bool
  | .wi i, .wi j=>Nat.beq i j
  | .wi i, .ri j=>Nat.beq i j
  | .ri i, .wi j=>Nat.beq i j
  | .wi _, .rb=>true
  | .rb, .wi _=>true
  |_,_=>false
def Aj.bq(a b:Aj):Bool:=(a.wB&&b.rB)||(a.rB&&b.wB)||((a.wT&&b.rT)||(a.rT&&b.wT))||a.one b
def QB:List Oper->List Nat->List Nat
  |[],I=>I
  |o::os,I=>QB os (I++[o.after.toList.foldl (λm e=>bif Region.binds .any e then (m ||| 2 ^ e.on) ||| I.getD e.on 0 else m) 0])
def rO(A:Array Oper)(tags:List Aj)(ms:List Nat)(oj:Oper)(j:Nat):Nat->List Oper->Bool
  |_,[]=>true
  |i,oi::C=>bif Nat.blt i j then ((oi.apart A oj && !(tags.getD i .all).bq (tags.getD j .all))||(ms.getD j 0).testBit i)&&rO A tags ms oj j (i+1) C else true
def I8(A:Array Oper)(tags:List Aj)(ms:List Nat):Nat->List Oper->Bool
  |_,[]=>true
  |j,o::C=>o.after.toList.all (λe => !Region.binds .any e||Nat.blt e.on j)&&rO A tags ms o j 0 A.toList&&I8 A tags ms (j+1) C
def xJ(A:Array Oper)(tags:List Aj):Bool:=I8 A tags (QB A.toList []) 0 A.toList
def aBi(P:Program)(o:Oper)(s:AE)(H Y:St)(x:AV):Prop:=
  ∀(g:Gh) (w:World) (a:Act) (next:Act->World->Prop) (Q:Exit->Act->World->Prop),Inv g H w->(∀x,x∈o.op.operands.toList->Aa g w (ev s x) (a.eval x))->
    (∀u w' g', Ar g w g' w'-> Inv g' Y w'-> Aa g' w' x u->Q (.panic [{ v:=u,recovered:=false }]) a w')->o.wp P a w next Q
def AD(P:Program)(A:Array Oper)(G:Bool)(K:AX->AE->St->Prop):List Oper->List Aj->AE->St->Prop
  |[],I,s,H=>(G=true->xJ A I.reverse=true)/\K .normal s H
  |o::C,I,s,H=>
    (A5 A s o true/\∃t v Y,AZ t P o s H Y v/\AD P A G K C (t::I) (iG o.dst v s) Y)\/
    (A5 A s o false/\AD P A G K C (.pure::I) (iG o.dst (.tup []) s) H)\/
    (G=false/\A5 A s o true/\∃x Y,aBi P o s H Y x/\K (.pan x) s Y)
section
variable {P:Program} {A:Array Oper}
def HO{s:AE}(h:A5 A s o b){g:Gh}{w:World}{a:Array Value}(n:∀d,(∃m∈A.toList,m.dst=some d)->d<a.size)
    (hs:∀j c d,o.guard=some (j,c)->(A[j]?).bind (·.dst)=some d->Aa g w (lk s d) (a.getD d undef)):
    Region.wanted o (yielded A a)=b:=by
  unfold A5 at h;unfold Region.wanted;cases i:o.guard with
  |none=>rw[i]at h;exact h.symm
  |some p=>
    obtain⟨j,c⟩:=p;rw[i]at h;obtain⟨d,e,h4⟩:=h;have hr:=hs j c d i e;have q:d<a.size:=n d (by
      cases k:A[j]? with
      |none=>rw[k]at e;cases e
      |some m=>rw[k]at e;exact⟨m,by simpa using Array.mem_of_getElem? k,e⟩)
    rcases h4 with⟨x,f,h3⟩|⟨f,h3⟩
    · rw[f]at hr
      have l:a.getD d undef = .bool x:=hr;have r:yielded A a j=some x:=by unfold yielded;simp_all
      simp_all
    · rw[f]at hr
      obtain⟨vs,l,t⟩:=hr;have r:yielded A a j=none:=by unfold yielded;simp_all
      simp_all
def Fs{Q:Exit->Act->World->Prop}{K:AX->AE->St->Prop}{N:Nat}{D:List Deferred}{g0:Gh}{w0:World}
    (p:∀d,(∃o'∈ A.toList,o'.dst=some d)->d<N)
    (y:∀s H g w (a:Act),a.tmps.size=N->a.defers=D->Ar g0 w0 g w->Inv g H w->A3 g w s a.tmps->K .normal s H->Q .normal a w)
    (z:∀x s H g w (a:Act) u,a.tmps.size=N->a.defers=D->Ar g0 w0 g w->Inv g H w->A3 g w s a.tmps->K (.pan x) s H->Aa g w x u->Q (.panic [{ v:=u,recovered:=false }]) a w):
    ∀(l:List Oper) (I:List Aj) (s:AE) (H:St) (g:Gh) (w:World) (a:Act),(∀o∈l,o∈A.toList)->a.tmps.size=N->a.defers=D->Ar g0 w0 g w->Inv g H w->A3 g w s a.tmps->
      AD P A false K l I s H->wpList P A Q l a w
  |[],I,s,H,g,w,a,_,ha,f,he,X,hs,h=>wpList_nil (y s H g w a ha f he X hs h.2)
  |o::C,I,s,H,g,w,a,hl,ha,f,he,X,hs,h=>by
    have e:∀v u w' g', Ar g w g' w'-> Aa g' w' v u->A3 g' w' (iG o.dst v s) (a.put o.dst u).tmps/\(a.put o.dst u).tmps.size=N/\(a.put o.dst u).defers=D:=by
      intro v u w' g' hx n
      have m:=hs.mono hx.le
      cases k:o.dst with
      |none=>exact⟨m,ha,f⟩
      |some d=>
        refine⟨A3.put m (by rw[ha];exact p d ⟨o,hl o Wb,k⟩) n, ?_,f⟩
        simpa [Act.put]using ha
    have c:∀b,A5 A s o b->Region.wanted o (yielded A a.tmps)=b:=λb hb=>
      HO hb (λd f=>by rw[ha];exact p d f) (λ_ _ d _ _=>hs d)
    unfold wpList
    rcases h with⟨hw,t,v,Y,j,hr⟩|⟨hw,hr⟩|⟨_,hw,x,Y,j,hr⟩
    · rw[c true hw,if_pos rfl]
      refine .inl (j.step g w a _ Q X (λx _=>FC X.gl hs x) λu w' g' hx i n=> ?_)
      obtain⟨q,r,h3⟩:=e v u w' g' hx n
      exact Fs p y z C _ _ Y g' w' _ (λo ho=>hl o (by simp[ho])) r h3 (he.trans hx) i q hr
    · rw[c false hw,if_neg Wb]
      obtain⟨q,r,h3⟩:=e (.tup []) undef w g (eV g w) ⟨#[],rfl,rfl⟩
      exact Fs p y z C _ _ H g w _ (λo ho=>hl o (by simp[ho])) r h3 he X q hr
    · rw[c true hw,if_pos rfl]
      refine .inl (j g w a _ Q X (λx _=>FC X.gl hs x) λu w' g' hx i n=> ?_)
      exact z x s Y g' w' a u ha f (he.trans hx) i (hs.mono hx.le) hr n
end
section
variable {P:Program} {A:Array Oper}
structure Trace(P:Program)(A:Array Oper)(k:Nat)(S:Nat->AE)(Z:Nat->St)(T:Nat->Aj)(V:Nat->AV):Prop where
  bw:∀(i:Nat) (o:Oper),k<=i->A[i]? =some o->S (i+1)=iG o.dst (V i) (S i)
  step:∀(i:Nat) (o:Oper),k<=i->A[i]? =some o->
    (A5 A (S i) o true/\AZ (T i) P o (S i) (Z i) (Z (i+1)) (V i))\/(A5 A (S i) o false/\V i = .tup []/\Z (i+1)=Z i/\T i = .pure)
def Ka{K:AX->AE->St->Prop}:∀(l:List Oper) (k:Nat) (I:List Aj) (s:AE) (H:St),(∀j,l[j]? =A[k+j]?)->AD P A true K l I s H->
    ∃(S:Nat->AE) (Z:Nat->St) (T:Nat->Aj) (V:Nat->AV),Trace P A k S Z T V/\S k=s/\Z k=H/\K .normal (S (k+l.length)) (Z (k+l.length))/\
      xJ A (I.reverse++(List.range' k l.length).map T)=true
  |[],k,I,s,H,a,h=>by
    refine⟨λ_=>s,λ_=>H,λ_ => .pure,λ_ => .undef,⟨λi o X b=> ?_,λi o X b=> ?_⟩,rfl,rfl,h.2,by simpa using h.1 rfl⟩
    · have:=a (i-k)
      simp_all
    · have:=a (i-k)
      simp_all
  |o::C,k,I,s,H,a,h=>by
    have hk:A[k]? =some o:=by simpa using (a 0).symm
    have d:∀j,C[j]? =A[k+1+j]? :=λj=>by have:=a (j+1);simpa [Nat.add_assoc,Nat.add_comm 1 j]using this
    have fin:∀(t:Aj) (v:AV) (Y:St),((A5 A s o true/\AZ t P o s H Y v)\/(A5 A s o false/\v = .tup []/\Y=H/\t = .pure))->
        AD P A true K C (t::I) (iG o.dst v s) Y->
        ∃(S:Nat->AE) (Z:Nat->St) (T:Nat->Aj) (V:Nat->AV),Trace P A k S Z T V/\S k=s/\Z k=H/\K .normal (S (k+(o::C).length)) (Z (k+(o::C).length))/\
          xJ A (I.reverse++(List.range' k (o::C).length).map T)=true:=by
      intro t v Y c hr
      obtain⟨S,Z,T,V,ht,hS,n,m,f⟩:=Ka C (k+1) (t::I) _ Y d hr
      refine⟨λi=>if i=k then s else S i,λi=>if i=k then H else Z i,λi=>if i=k then t else T i,λi=>if i=k then v else V i,⟨λi g X b=> ?_,λi g X b=> ?_⟩,Wb,Wb, ?_, ?_⟩
      · by_cases e:i=k
        · simp_all
        · have:=ht.bw i g om b
          grind
      · by_cases e:i=k
        · simp_all
        · have:=ht.step i g om b
          grind
      · grind
      · rw[show (List.range' k (o::C).length).map (λi=>if i=k then t else T i)=t::(List.range' (k+1) C.length).map T from ?_]
        · simpa using f
        · simp only[List.length_cons,List.range'_succ,List.map_cons,if_true]
          congr 1
          apply List.map_congr_left
          intro i X
          rw[List.mem_range']at X
          obtain⟨j,hj,rfl⟩:=X
          simp;omega
    rcases h with⟨hw,t,v,Y,c,hr⟩|⟨hw,hr⟩|⟨hf,_⟩
    · exact fin t v Y (.inl ⟨hw,c⟩) hr
    · exact fin .pure (.tup []) H (.inr ⟨hw,rfl,rfl,rfl⟩) hr
    · cases hf
def Bg(A:Array Oper)(D:Nat->Prop):Prop:=∀j o,D j->A[j]? =some o->∀e∈o.after.toList,Region.binds .any e=true->D e.on
def HP(I:List Nat)(i:Nat):∀(es:List Edge) (m:Nat),
    (es.foldl (λm e=>bif Region.binds .any e then (m ||| 2 ^ e.on) ||| I.getD e.on 0 else m) m).testBit i=true->
    m.testBit i=true\/∃e∈es,Region.binds .any e=true/\(i=e.on\/(I.getD e.on 0).testBit i=true)
  |[],m,h => .inl h
  |e::es,m,h=>by
    rw[List.foldl_cons]at h
    rcases HP I i es _ h with h|⟨e', he', h1,h2⟩
    · grind
    · grind
def Ft(D:Nat->Prop)(k:Bg A D):∀(h:List Oper) (I:List Nat),(∀j,h[j]? =A[I.length+j]?)->
    (∀(j i:Nat) (o:Oper),j<I.length->A[j]? =some o->(I.getD j 0).testBit i=true->(∀e∈o.after.toList,Region.binds .any e=true->D e.on)->D i)->
    ∀(j i:Nat) (o:Oper),A[j]? =some o->((QB h I).getD j 0).testBit i=true->(∀e∈o.after.toList,Region.binds .any e=true->D e.on)->D i
  |[],I,b,a,j,i,o,hj,hb,he=>by
    have c:j<I.length:=by
      refine Nat.lt_of_not_le λf=> ?_
      have:=b (j-I.length)
      simp_all
    exact a j i o c hj hb he
  |o':: h,I,b,a,j,i,o,hj,hb,he=>by
    have h0:A[I.length]? =some o':= by simpa using (b 0).symm
    refine Ft D k h _ (λj=> ?_) (λj i o c hj hb he=> ?_) j i o hj hb he
    · have:=b (j+1)
      grind
    · simp only[List.length_append,List.length_cons,List.length_nil]at c
      by_cases e:j<I.length
      · rw[List.getD_eq_getElem?_getD,List.getElem?_append_left e, <-List.getD_eq_getElem?_getD]at hb
        grind
      · have n:j=I.length:=om
        subst n
        rw[h0]at hj
        cases hj
        rw[List.getD_eq_getElem?_getD,List.getElem?_append_right (le_refl _)]at hb
        simp only[Nat.sub_self,List.getElem?_cons_zero,getD_some]at hb
        rcases HP I i _ 0 hb with hb|⟨ed,hed,hbi,X⟩
        · simp at hb
        · have l:=he ed hed hbi
          rcases X with rfl|X
          · exact l
          · have g:ed.on<I.length:=by
              refine Nat.lt_of_not_le λf=> ?_
              rw[List.getD_eq_getElem?_getD,List.getElem?_eq_none f]at X
              simp at X
            cases d:A[ed.on]? with
            |none=>
              have:I.length<A.size:=(Array.getElem?_eq_some_iff.1 h0).1
              have:A.size<=ed.on:=by simpa using d
              omega
            |some m=>exact a ed.on i m g d X (k ed.on m l d)
def vM{a:List Aj}{c:List Nat}{d:Oper}{j:Nat}:∀(l:List Oper) (k:Nat),rO A a c d j k l=true->∀(i:Nat) (b:Oper),l[i]? =some b->k+i<j->
    (b.apart A d=true/\(a.getD (k+i) .all).bq (a.getD j .all)=false)\/(c.getD j 0).testBit (k+i)=true
  |[],_,_,i,b,X,_=>by simp at X
  |o::C,k,h,i,b,X,e=>by
    unfold rO at h;have hk:Nat.blt k j=true:=by rw[Nat.blt_eq];omega
    rw[hk]at h;simp only[cond_true,and_eq_true]at h;cases i with
    |zero=>simp_all
    |succ i=>have:=vM C (k+1) h.2 i b Xt om;grind
def vN{a:List Aj}{b:List Nat}:∀(l:List Oper) (k:Nat),I8 A a b k l=true->∀(j:Nat) (o:Oper),l[j]? =some o->
    (∀e∈o.after.toList,Region.binds .any e=true->e.on<k+j)/\rO A a b o (k+j) 0 A.toList=true
  |[],_,_,j,o,hj=>by simp at hj
  |o::C,k,h,j,c,hj=>by
    unfold I8 at h;simp only[and_eq_true,all_eq_true]at h;cases j with
    |zero=>simp at hj;subst hj;refine⟨λe he hb=> ?_,by simpa using h.1.2⟩;have:=h.1.1 e he;simp_all
    |succ j=>have:=vN C (k+1) h.2 j c Xy;grind
structure BK(A:Array Oper)(T:Nat->Aj):Prop where
  de:∀(j:Nat) (o:Oper),A[j]? =some o->∀e∈o.after.toList,Region.binds .any e=true->e.on<j
  pair:∀(D:Nat->Prop),Bg A D->∀(i j:Nat) (oi oj:Oper),A[i]? =some oi->A[j]? =some oj->i<j->(∀e∈oj.after.toList,Region.binds .any e=true->D e.on)->
    (oi.apart A oj=true/\(T i).bq (T j)=false)\/D i
def L7{T:Nat->Aj}(h:xJ A ((List.range' 0 A.toList.length).map T)=true):BK A T:=by
  have c:∀i,i<A.size->((List.range' 0 A.toList.length).map T).getD i .all=T i:=Xu
  refine⟨λj o hj=> ?_,λD e i j g d X hj f he=> ?_⟩
  · have:=(vN _ 0 h j o Xy).1;simp_all
  · have a:=(vN _ 0 h j d Xy).2;rw[Nat.zero_add]at a;have b:=(Array.getElem?_eq_some_iff.1 hj).1;have:=vM _ 0 a i g Xt om;rw[Nat.zero_add,c i om,c j b]at this;rcases this with h1|h1
    · exact .inl h1
    · exact .inr (Ft D e A.toList [] Wb (λj i o hj=>by simp at hj) j i d hj h1 he)
noncomputable def valAt (A:Array Oper) (s0:AE) (V:Nat->AV) (D:Nat->Bool):Nat->Nat->AV
  |0,t=>lk s0 t
  |k+1,t=>if D k=true/\((A[k]?).bind (·.dst))=some t then V k else valAt A s0 V D k t
def Aj.bk:Aj->Option Nat
  | .wi i=>some i
  |_=>none
def Aj.bg(t:Aj):Bool:=t.wB||t.bk.isSome
def aBj(l:List Ob)(i:Nat):Option Ob->List Ob
  |some ob=>l.set i ob
  |none=>l
def bAt(Z:Nat->St)(T:Nat->Aj)(D:Nat->Bool):Nat->List Ob
  |0=>(Z 0).B
  |k+1=>if D k=true then
      (if (T k).wB=true then (Z (k+1)).B else match (T k).bk with
        |some i=>aBj (bAt Z T D k) i (Z (k+1)).B[i]?
        |none=>bAt Z T D k)
    else bAt Z T D k
def tAt(Z:Nat->St)(T:Nat->Aj)(D:Nat->Bool):Nat->List Tok
  |0=>(Z 0).T
  |k+1=>if D k=true/\(T k).wT=true then (Z (k+1)).T else tAt Z T D k
theorem Tr(d:Option Tmp)(v:AV)(s:AE)(t:Nat):lk (iG d v s) t=if d=some t then v else lk s t:=by
  cases d with
  |none=>simp[iG]
  |some d=>simp only[iG,lk];simp_all
theorem AZ.cd{t:Aj}{s:AE}{H Y:St}{v:AV}(h:AZ t P o s H Y v)(ht:t.bg=false):Y.B=H.B:=by
  cases t with
  |pure=>exact congrArg St.B h.1
  |rb=>exact congrArg St.B h.1
  |wb=>cases ht
  |tk=>exact h.1
  |all=>cases ht
  |rt=>exact congrArg St.B h.1
  |ri i=>exact congrArg St.B h.1
  |wi i=>cases ht
theorem AZ.ca{i:Nat}{s:AE}{H Y:St}{v:AV}(h:AZ (.wi i) P o s H Y v):∃ob,Y.B=H.B.set i ob:=by obtain⟨ob,a,_⟩:=h;grind
theorem AZ.cm{t:Aj}{s:AE}{H Y:St}{v:AV}(h:AZ t P o s H Y v)(ht:t.wT=false):Y.T=H.T:=by
  cases t with
  |pure=>exact congrArg St.T h.1
  |rb=>exact congrArg St.T h.1
  |wb=>exact h.1
  |tk=>cases ht
  |all=>cases ht
  |rt=>exact congrArg St.T h.1
  |ri i=>exact congrArg St.T h.1
  |wi i=>obtain⟨ob,rfl,_⟩:=h;rfl
section run
variable {S:Nat->AE} {Z:Nat->St} {T:Nat->Aj} {V:Nat->AV} (ht:Trace P A 0 S Z T V) (hor:BK A T)
theorem Trace.cd(ht:Trace P A 0 S Z T V){i:Nat}(a:A[i]? =some o)(h:(T i).bg=false):(Z (i+1)).B=(Z i).B:=by
  rcases ht.step i o (zero_le _) a with⟨_,hs⟩|⟨_,_,hz,_⟩
  · exact hs.cd h
  · rw[hz]
theorem Trace.ca(ht:Trace P A 0 S Z T V){k i:Nat}(a:A[k]? =some o)(h:T k = .wi i):∃ob,(Z (k+1)).B=(Z k).B.set i ob:=by
  rcases ht.step k o (zero_le _) a with⟨_,hs⟩|⟨_,_,hz,hp⟩
  · rw[h]at hs;exact hs.ca
  · simp_all
def I9{t:Aj}{i:Nat}(h:t.bk=some i):t = .wi i:=by cases t<;>cases h;rfl
theorem Fv{l m:List Ob}{i:Nat}{ob:Ob}(h:m[i]? =l[i]?):aBj m i (l.set i ob)[i]? =m.set i ob:=by
  by_cases e:i<l.length
  · rw[List.getElem?_set_self e];rfl
  · have b:¬i<m.length:=λa=>by simp_all
    rw[List.getElem?_eq_none Wl,List.set_eq_of_length_le om];rfl
def Aj.bi(t:Aj)(i:Nat):Bool := !t.wB&&(match t.bk with|some j => !Nat.beq j i|none=>true)
theorem Trace.cu(ht:Trace P A 0 S Z T V){k i:Nat}(b:A[k]? =some o)(h:(T k).bi i=true):(Z (k+1)).B[i]? =(Z k).B[i]? :=by
  unfold Aj.bi at h;simp only[and_eq_true,not_eq_true']at h;cases hw:(T k).bk with
  |none=>rw[ht.cd b (by unfold Aj.bg;rw[h.1,hw];rfl)]
  |some j=>
    obtain⟨ob,e⟩:=ht.ca b (I9 hw);have a:=h.2;rw[hw]at a;have c:j≠i:=λe=>by subst e;simp at a
    simp_all
theorem Trace.cm(ht:Trace P A 0 S Z T V){i:Nat}(a:A[i]? =some o)(h:(T i).wT=false):(Z (i+1)).T=(Z i).T:=by
  rcases ht.step i o (zero_le _) a with⟨_,hs⟩|⟨_,_,hz,_⟩
  · exact hs.cm h
  · rw[hz]
theorem Fw(ht:Trace P A 0 S Z T V){D:Nat->Bool}{t:Nat}:∀k,k<=A.size->(∀(i:Nat) (o:Oper),i<k->A[i]? =some o->o.dst=some t->D i=true)->valAt A (S 0) V D k t=lk (S k) t
  |0,_,_=>rfl
  |k+1,hk,h=>by
    have a:k<A.size:=hk;have b:=Array.getElem?_eq_getElem a;rw[ht.bw k _ (zero_le _) b,Tr,valAt,b];by_cases e:A[k].dst=some t
    · simp_all
    · rw[if_neg Z1,if_neg e];exact Fw ht k om λi o X=>h i o om
theorem L8(ht:Trace P A 0 S Z T V){D:Nat->Bool}:∀k,k<=A.size->(∀i,i<k->(T i).bg=true->D i=true)->bAt Z T D k=(Z k).B
  |0,_,_=>rfl
  |k+1,hk,h=>by
    have c:=Array.getElem?_eq_getElem (show k<A.size from hk);have E:=L8 ht (D:=D) k om λi X=>h i om
    rw[bAt];cases e:(T k).bg with
    |true=>
      rw[if_pos (h k (lt_succ_self k) e)];cases d:(T k).wB with
      |true=>rw[if_pos rfl]
      |false=>
        cases eo:(T k).bk with
        |none=>unfold Aj.bg at e;rw[d,eo]at e;cases e
        |some i=>obtain⟨ob,b⟩:=ht.ca c (I9 eo);simp only[E];rw[b];exact Fv rfl
    |false=>
      have a:=e;unfold Aj.bg at a;simp only[Bool.or_eq_false_iff]at a;have eo:(T k).bk=none:=by cases f:(T k).bk with|none=>rfl|some _=>rw[f]at a;simp at a
      rw[a.1,eo,E,ht.cd c e];simp
theorem L9(ht:Trace P A 0 S Z T V){D:Nat->Bool}{i:Nat}:∀k,k<=A.size->(∀m,m<k->(T m).bi i=false->D m=true)->(bAt Z T D k)[i]? =(Z k).B[i]?
  |0,_,_=>rfl
  |k+1,hk,h=>by
    have g:=Array.getElem?_eq_getElem (show k<A.size from hk);have E:=L9 ht (D:=D) (i:=i) k om λm n=>h m om
    rw[bAt];cases e:(T k).bi i with
    |false=>
      rw[if_pos (h k (lt_succ_self k) e)];cases l:(T k).wB with
      |true=>rw[if_pos rfl]
      |false=>
        rw[if_neg Wb];cases eo:(T k).bk with
        |none=>unfold Aj.bi at e;rw[l,eo]at e;cases e
        |some j=>
          obtain⟨ob,d⟩:=ht.ca g (I9 eo);have b:j=i:=by unfold Aj.bi at e;simp_all
          subst b;simp only;rw[d,Fv E];grind
    |true=>
      rw[ht.cu g e];have a:=e;unfold Aj.bi at a;simp only[and_eq_true,not_eq_true']at a;split
      · rw[a.1,if_neg Wb];cases eo:(T k).bk with
        |none=>exact E
        |some j=>
          have f:=a.2;rw[eo]at f;have c:j≠i:=λe=>by subst e;simp at f
          simp only;cases (Z (k+1)).B[j]? with
          |none=>exact E
          |some ob=>show ((bAt Z T D k).set j ob)[i]? =_;rw[List.getElem?_set_ne c];exact E
      · exact E
theorem Ma(ht:Trace P A 0 S Z T V){D:Nat->Bool}:∀k,k<=A.size->(∀i,i<k->(T i).wT=true->D i=true)->tAt Z T D k=(Z k).T
  |0,_,_=>rfl
  |k+1,hk,h=>by
    have a:=Array.getElem?_eq_getElem (show k<A.size from hk);rw[tAt];cases e:(T k).wT with
    |true=>rw[if_pos ⟨h k (lt_succ_self k) e,rfl⟩]
    |false=>rw[if_neg Wb,Ma ht k om λi X=>h i om,ht.cm a e]
theorem Fx{D:Nat->Bool}{t j:Nat}:∀k,(∀(i:Nat) (o:Oper),j<=i->i<j+k->A[i]? =some o->o.dst=some t->D i=false)->valAt A (S 0) V D (j+k) t=valAt A (S 0) V D j t
  |0,_=>rfl
  |k+1,h=>by
    rw[show j+(k+1)=(j+k)+1 by omega,valAt,if_neg,Fx k λi o b a=>h i o b om];rintro⟨b,a⟩;cases c:A[j+k]? with
    |none=>rw[c]at a;cases a
    |some o=>simp_all
theorem Mc{D:Nat->Bool}{j:Nat}:∀k,(∀i,j<=i->i<j+k->(T i).bg=true->D i=false)->bAt Z T D (j+k)=bAt Z T D j
  |0,_=>rfl
  |k+1,h=>by
    have E:=Mc (D:=D) (j:=j) k λi a b=>h i a om
    rw[show j+(k+1)=(j+k)+1 by omega,bAt];split
    · rename_i c;have e:(T (j+k)).bg=false:=by grind
      unfold Aj.bg at e;simp_all
    · exact E
theorem QC{D:Nat->Bool}{i j:Nat}:∀k,(∀m,j<=m->m<j+k->(T m).bi i=false->D m=false)->(bAt Z T D (j+k))[i]? =(bAt Z T D j)[i]?
  |0,_=>rfl
  |k+1,h=>by
    have E:=QC (D:=D) (i:=i) (j:=j) k λm c a=>h m c om
    rw[show j+(k+1)=(j+k)+1 by omega,bAt];split
    · rename_i d;have e:(T (j+k)).bi i=true:=by grind
      unfold Aj.bi at e;simp only[and_eq_true,not_eq_true']at e;rw[e.1,if_neg Wb];cases eo:(T (j+k)).bk with
      |none=>exact E
      |some m=>
        have a:=e.2;rw[eo]at a;have b:m≠i:=λe=>by subst e;simp at a
        simp only;cases (Z (j+k+1)).B[m]? with
        |none=>exact E
        |some ob=>show ((bAt Z T D (j+k)).set m ob)[i]? =_;rw[List.getElem?_set_ne b];exact E
    · exact E
theorem Md{D:Nat->Bool}{j:Nat}:∀k,(∀i,j<=i->i<j+k->(T i).wT=true->D i=false)->tAt Z T D (j+k)=tAt Z T D j
  |0,_=>rfl
  |k+1,h=>by rw[show j+(k+1)=(j+k)+1 by omega,tAt,if_neg,Md k λi a b=>h i a om];grind
def iE(D:Nat->Bool)(j:Nat):Nat->Bool:=λi=>if i=j then true else D i
theorem Kb{D D': Nat->Bool}{t:Nat}:∀k,(∀(i:Nat) (o:Oper),i<k->A[i]? =some o->o.dst=some t->D' i=D i)->valAt A (S 0) V D' k t=valAt A (S 0) V D k t
  |0,_=>rfl
  |k+1,h=>by
    rw[valAt,valAt,Kb k λi o X=>h i o om];cases a:A[k]? with
    |none=>simp
    |some o=>grind
theorem Me{D D': Nat->Bool}:∀k,(∀i,i<k->(T i).bg=true->D' i=D i)->bAt Z T D' k=bAt Z T D k
  |0,_=>rfl
  |k+1,h=>by
    rw[bAt,bAt,Me k λi X=>h i om];cases e:(T k).bg with
    |true=>rw[h k (lt_succ_self k) e]
    |false=>unfold Aj.bg at e;simp_all
def Vc{D D': Nat->Bool}{i j:Nat}{ob:Ob}(hb:bAt Z T D' (j+1)=(bAt Z T D (j+1)).set i ob)(c:∀m,j<m->D' m=D m):∀k,(∀m,j<m->m<j+1+k->(T m).bi i=false->D m=false)->bAt Z T D' (j+1+k)=(bAt Z T D (j+1+k)).set i ob
  |0,_=>hb
  |k+1,h=>by
    have E:=Vc hb c k λm d a=>h m d om
    rw[show j+1+(k+1)=(j+1+k)+1 by omega,bAt,bAt,c _ om];split
    · rename_i g;have e:(T (j+1+k)).bi i=true:=by grind
      unfold Aj.bi at e;simp only[and_eq_true,not_eq_true']at e;rw[e.1,if_neg Wb,if_neg Wb];cases eo:(T (j+1+k)).bk with
      |none=>exact E
      |some m=>
        have a:=e.2;rw[eo]at a;have b:m≠i:=λe=>by subst e;simp at a
        simp only;rw[E];cases (Z (j+1+k+1)).B[m]? with
        |none=>rfl
        |some f=>exact List.set_comm _ _ (Ne.symm b)
    · exact E
theorem QD{D D': Nat->Bool}:∀k,(∀i,i<k->(T i).wT=true->D' i=D i)->tAt Z T D' k=tAt Z T D k
  |0,_=>rfl
  |k+1,h=>by
    rw[tAt,tAt,QD k λi X=>h i om];cases e:(T k).wT with
    |true=>rw[h k (lt_succ_self k) e]
    |false=>simp
theorem QE(a b:Aj):a.one b=b.one a:=by
  have hb:∀i j:Nat,Nat.beq i j=Nat.beq j i:=λi j=>by
    cases h:Nat.beq i j with
    |true=>rw[Nat.eq_of_beq_eq_true h];exact(Nat.beq_refl j).symm
    |false=>
      cases c:Nat.beq j i with
      |false=>rfl
      |true=>rw[Nat.eq_of_beq_eq_true c,Nat.beq_refl]at h;cases h
  cases a<;>cases b<;>first|rfl|exact hb _ _
theorem Mf(a b:Aj):a.bq b=b.bq a:=by unfold Aj.bq;rw[QE a b];grind
def yW{a b:Aj}(c:a.bg=true)(h3:b = .rb\/b.wB=true):a.bq b=true:=by
  rcases h3 with rfl|h3
  · cases a<;>first|rfl|cases c
  · cases b<;>first|(cases h3;done)|skip
    all_goals (cases a<;>first|rfl|cases c)
def xK{a b:Aj}{i:Nat}(c:a.bi i=false)(d:b = .ri i\/b = .wi i):a.bq b=true:=by
  rcases d with rfl|rfl<;>cases a<;>first|rfl|(cases c;done)|skip
  all_goals (rename_i j;simp only[Aj.bi,Aj.wB,Aj.bk,Bool.not_false,Bool.true_and,Bool.not_eq_false']at c;show Nat.beq j i=true;exact c)
def Du(hor:BK A T){D:Nat->Bool}(l:Bg A (D · =true)){j:Nat}{g:Oper}(hj:A[j]? =some g)(hn:D j=false)(hr:∀e∈g.after.toList,Region.binds .any e=true->D e.on=true)
    {i:Nat} (X:A[i]? =some f) (O:f.apart A g=false\/g.apart A f=false\/(T i).bq (T j)=true):(i<j->D i=true)/\(j<i->D i=false):=by
  have o:∀x y:Oper,x.apart A y=true->y.apart A x=true:=by
    intro x y h;obtain⟨b,k,h3⟩:=Oper.apart_spec h;unfold Oper.apart;cases hx:x.dst with
    |none=>
      cases n:y.dst with
      |none=>rfl
      |some d=>simpa using h3 d n
    |some c=>
      cases n:y.dst with
      |none=>simpa using b c hx
      |some d=>grind
  refine⟨λa=> ?_,λa=> ?_⟩
  · rcases hor.pair _ l i j f g X hj a hr with⟨b,k⟩|b
    · simp_all
    · exact b
  · cases m:D i with
    |false=>rfl
    |true=>
      rcases hor.pair _ l j i g f hj X a (λe he hb=>l i f m X e he hb) with⟨b,k⟩|b
      · rcases O with h|h|h
        · simp_all
        · simp_all
        · rw[Mf,k]at h;cases h
      · simp_all
structure CS(ht:Trace P A 0 S Z T V)(N:Nat)(D:List Deferred)(g0:Gh)(w0:World)(L:Nat->Bool)(g:Gh)(w:World)(a:Act):Prop where
  K:Bg A (L · =true)
  size:a.tmps.size=N
  defers:a.defers=D
  ext:Ar g0 w0 g w
  inv:Inv g ⟨bAt Z T L A.size,tAt Z T L A.size⟩ w
  bw:∀t,Aa g w (valAt A (S 0) V L A.size t) (a.tmps.getD t undef)
theorem HB{t:Nat}(h:Operand.tmp t∈o.op.operands.toList):t∈o.looksAt A:=by grind[Oper.looksAt]
theorem Kc{j:Nat}{a:Bool}{d:Nat}(c:o.guard=some (j,a))(b:(A[j]?).bind (·.dst)=some d):d∈o.looksAt A:=by grind[Oper.looksAt]
def vO{a b:Oper}{t:Nat}(X:a.dst=some t)(hj:t∈b.looksAt A):a.apart A b=false:=by
  cases h:a.apart A b with
  |false=>rfl
  |true=>exact absurd hj ((Oper.apart_spec h).1 t X)
def Ja{a b:Oper}{t:Nat}(X:a.dst=some t)(hj:b.dst=some t):a.apart A b=false:=by
  cases h:a.apart A b with
  |false=>rfl
  |true=>exact absurd hj ((Oper.apart_spec h).2.1 t X)
def QF{ht:Trace P A 0 S Z T V}(hor:BK A T){N:Nat}{D:List Deferred}{g0:Gh}(hN:∀d,(∃o'∈ A.toList,o'.dst=some d)->d<N)
    {L:Nat->Bool} {g:Gh} {w:World} (p:CS ht N D g0 w0 L g w a) {j:Nat} {oj:Oper} (hj:A[j]? =some oj) (hn:L j=false)
    (hr:∀e∈oj.after.toList,Region.binds .any e=true->L e.on=true) {K:Act->World->Prop}
    (hK:∀a' w' g', CS ht N D g0 w0 (iE L j) g' w' a'-> K a' w'):wpOp P A Q j K a w:=by
  have aw:j<A.size:=(Array.getElem?_eq_some_iff.1 hj).1;have q:j+(A.size-j)=A.size:=om
  have a8:∀t,t∈oj.looksAt A->valAt A (S 0) V L A.size t=lk (S j) t:=by
    intro t ag;rw[<-q,Fx (A.size-j),Fw ht j om]
    · intro i o X ho z
      exact(Du hor p.K hj hn hr ho (.inl (vO z ag))).1 X
    · intro i o h1 h2 ho z
      by_cases e:i=j
      · subst e;exact hn
      · exact(Du hor p.K hj hn hr ho (.inl (vO z ag))).2 om
  have ac:(T j).wT=true->(T j).rT=true:=by cases T j<;>intro h<;>first|rfl|cases h
  have r:∀i,(T i).wT=true->(T j).rT=true->(T i).bq (T j)=true:=by intro i h1 h2;unfold Aj.bq;rw[h1,h2];simp
  have bj:(T j = .rb\/(T j).wB=true)->bAt Z T L A.size=(Z j).B:=by
    intro hb;rw[<-q,Mc (A.size-j),L8 ht j om]
    · intro i X hw
      exact(Du hor p.K hj hn hr (Array.getElem?_eq_getElem (show i<A.size by omega)) (.inr (.inr (yW hw hb)))).1 X
    · intro i h1 h2 hw
      by_cases e:i=j
      · subst e;exact hn
      · exact(Du hor p.K hj hn hr (Array.getElem?_eq_getElem (show i<A.size by omega)) (.inr (.inr (yW hw hb)))).2 om
  have bi:∀i,(T j = .ri i\/T j = .wi i)->(bAt Z T L A.size)[i]? =(Z j).B[i]? :=by
    intro i hb;rw[<-q,QC (A.size-j),L9 ht j om]
    · intro m X hw
      exact(Du hor p.K hj hn hr (Array.getElem?_eq_getElem (show m<A.size by omega)) (.inr (.inr (xK hw hb)))).1 X
    · intro m h1 h2 hw
      by_cases e:m=j
      · subst e;exact hn
      · exact(Du hor p.K hj hn hr (Array.getElem?_eq_getElem (show m<A.size by omega)) (.inr (.inr (xK hw hb)))).2 om
  have tj:(T j).rT=true->tAt Z T L A.size=(Z j).T:=by
    intro hb;rw[<-q,Md (A.size-j),Ma ht j om]
    · intro i X hw
      exact(Du hor p.K hj hn hr (Array.getElem?_eq_getElem (show i<A.size by omega)) (.inr (.inr (r i hw hb)))).1 X
    · intro i h1 h2 hw
      by_cases e:i=j
      · subst e;exact hn
      · exact(Du hor p.K hj hn hr (Array.getElem?_eq_getElem (show i<A.size by omega)) (.inr (.inr (r i hw hb)))).2 om
  have a2:(T j).wB=true->bAt Z T (iE L j) A.size=(Z (j+1)).B:=by intro hw;rw[show A.size=(j+1)+(A.size-(j+1)) by omega,Mc (A.size-(j+1)),bAt,if_pos (by simp[iE]),if_pos hw];intro i h1 h2 y;have:=(Du hor p.K hj hn hr (Array.getElem?_eq_getElem (show i<A.size by omega)) (.inr (.inr (yW y (.inr hw))))).2 om;simp[iE,show i≠j by omega,this]
  have n:(T j).bg=false->bAt Z T (iE L j) A.size=bAt Z T L A.size:=by
    intro hw;refine Me _ λi _ y=> ?_
    have:i≠j:=λe=>by rw[e,hw]at y;cases y
    simp[iE,this]
  have a9:∀(i:Nat) (ob:Ob),T j = .wi i->(Z (j+1)).B=(Z j).B.set i ob->bAt Z T (iE L j) A.size=(bAt Z T L A.size).set i ob:=by
    intro i ob hw hz;have aj:(bAt Z T L j)[i]? =(Z j).B[i]? :=L9 ht j om λm X ab=>(Du hor p.K hj hn hr (Array.getElem?_eq_getElem (show m<A.size by omega)) (.inr (.inr (xK ab (.inr hw))))).1 X
    have h0:bAt Z T (iE L j) (j+1)=(bAt Z T L (j+1)).set i ob:=by rw[bAt,bAt,if_pos (by simp[iE]),hw,hn,if_neg (by simp[Aj.wB]),if_neg Wb];simp only[Aj.bk];rw[Me (D:=L) (D':= iE L j) j λm al _=>by simp[iE,show m≠j by omega],hz];exact Fv aj
    rw[show A.size=(j+1)+(A.size-(j+1)) by omega];refine Vc h0 (λm al=>by simp[iE,show m≠j by omega]) _ λm h1 h2 ab=> ?_
    exact(Du hor p.K hj hn hr (Array.getElem?_eq_getElem (show m<A.size by omega)) (.inr (.inr (xK ab (.inr hw))))).2 om
  have a7:tAt Z T (iE L j) A.size=if (T j).wT=true then (Z (j+1)).T else tAt Z T L A.size:=by
    split
    · rename_i hw
      rw[show A.size=(j+1)+(A.size-(j+1)) by omega,Md (A.size-(j+1)),tAt,if_pos ⟨by simp[iE],hw⟩];intro i h1 h2 y;have:=(Du hor p.K hj hn hr (Array.getElem?_eq_getElem (show i<A.size by omega)) (.inr (.inr (r i y (ac hw))))).2 om;simp[iE,show i≠j by omega,this]
    · rename_i hw
      refine QD _ λi _ y=> ?_
      have:i≠j:=λe=>hw (e▸y)
      simp[iE,this]
  have ah:∀t,valAt A (S 0) V (iE L j) A.size t=if oj.dst=some t then V j else valAt A (S 0) V L A.size t:=by
    intro t;split
    · rename_i z
      rw[show A.size=(j+1)+(A.size-(j+1)) by omega,Fx (A.size-(j+1)),valAt,hj,if_pos ⟨by simp[iE],z⟩];intro i o h1 h2 ho aa;have:=(Du hor p.K hj hn hr ho (.inl (Ja aa z))).2 om;simp[iE,show i≠j by omega,this]
    · rename_i z
      refine Kb _ λi o _ ho aa=> ?_
      have:i≠j:=λe=>by subst e;rw[hj]at ho;cases ho;exact z aa
      simp[iE,this]
  have ad:Bg A (iE L j · =true):=by
    intro i o X ho e he hb;have ae:L e.on=true->iE L j e.on=true:=by intro h;unfold iE;split<;>simp_all
    by_cases e': i=j
    · subst e'; rw[hj]at ho;cases ho;exact ae (hr e he hb)
    · have:L i=true:=by simpa [iE,e']using X
      exact ae (p.K i o this ho e he hb)
  have fin:∀(u:Value) (w': World) (g': Gh),Ar g w g' w'-> Inv g' ⟨bAt Z T (iE L j) A.size,tAt Z T (iE L j) A.size⟩ w'-> Aa g' w' (V j) u->K (a.put oj.dst u) w':= by
    intro u w' g' hx X hv;refine hK _ _ g' ⟨ad, ?_, ?_,p.ext.trans hx,X,λt=> ?_⟩
    · cases z:oj.dst with
      |none=>exact p.size
      |some d=>simpa [Act.put]using p.size
    · cases z:oj.dst<;>exact p.defers
    · rw[ah t]
      have a6:=Aa.mono hx.le _ _ (p.bw t);cases z:oj.dst with
      |none=>simpa [Act.put]using a6
      |some d=>
        have ak:d<a.tmps.size:=by rw[p.size];exact hN d ⟨oj,by simpa using Array.mem_of_getElem? hj,z⟩
        by_cases e:d=t
        · subst e;simpa [Act.put,ak]using hv
        · simpa [Act.put,Array.getElem?_setIfInBounds,e]using a6
  unfold wpOp;rw[hj];have a3:∀b,A5 A (S j) oj b->Region.wanted oj (yielded A a.tmps)=b:=λb hb=>
    HO (g:=g) (w:=w) hb (λd z=>by rw[p.size];exact hN d z) (λi as d hg z=>by rw[<-a8 d (Kc hg z)];exact p.bw d)
  have af:∀x,x∈oj.op.operands.toList->Aa g w (ev (S j) x) (a.eval x):=by
    intro x hx;cases x with
    |tmp t=>show Aa g w (lk (S j) t) _;rw[<-a8 t (HB hx)];exact p.bw t
    |const v=>exact kM g w v
    |global i=>exact FB p.inv.gl i
    |func f=>exact⟨#[], #[],rfl,rfl,rfl⟩
  rcases ht.step j oj (zero_le _) hj with⟨hw,k⟩|⟨hw,hv,hz,htag⟩
  · simp only[a3 true hw,if_true]
    refine .inl ?_;have l:∀Y,AU P oj (S j) ⟨bAt Z T L A.size,tAt Z T L A.size⟩ Y (V j)->Y=⟨bAt Z T (iE L j) A.size,tAt Z T (iE L j) A.size⟩->oj.wp P a w K Q:=by intro Y hs e;subst e;exact hs g w a K Q p.inv af fin
    rw[a7]at l;cases c:T j with
    |pure=>rw[n WI]at l;rw[c]at k l;exact l _ (k.2 _) XF
    |rb=>have hb:=bj (.inl c);rw[n WI]at l;rw[c]at k l;rw[hb]at l;exact l _ (k.2 _) XF
    |wb=>have hb:=bj (.inr WI);rw[a2 WI]at l;rw[c]at k l;rw[hb]at l;exact l _ (k.2 _) XF
    |tk=>have hb:=tj WI;rw[n WI]at l;rw[c]at k l;rw[hb]at l;exact l _ (k.2 _) XF
    |rt=>have hb:=tj WI;rw[n WI]at l;rw[c]at k l;rw[hb]at l;exact l _ (k.2 _) XF
    |all=>have hb:=bj (.inr WI);have hb':= tj WI;rw[a2 WI]at l;rw[c]at k l;rw[hb,hb']at l;exact l _ k XF
    |ri i=>have hb:=bi i (.inl c);rw[n WI]at l;rw[c]at k l;exact l _ (k.2 _ _ hb) XF
    |wi i=>have hb:=bi i (.inr c);rw[c]at k;obtain⟨ob,hz,k⟩:=k;rw[a9 i ob c (by rw[hz])]at l;rw[c]at l;exact l _ (k _ _ hb) XF
  · simp only[a3 false hw,Bool.false_eq_true,if_false]
    refine fin undef w g (eV g w) ?_ (by rw[hv];exact⟨#[],rfl,rfl⟩);rw[n (by rw[htag];rfl),a7,htag];simpa [Aj.wT]using p.inv
def Ts{ht:Trace P A 0 S Z T V}(hor:BK A T){N:Nat}{D:List Deferred}{g0:Gh}(z:∀d,(∃o'∈ A.toList,o'.dst=some d)->d<N)
 (hQ:∀a w g,CS ht N D g0 w0 (λi=>decide (i<A.size)) g w a->Q .normal a w):
    ∀(b:Nat) (listed:Array Bool) (g:Gh) (w:World) (a:Act),listed.size=A.size->(List.range A.size).countP (λi => !listed.getD i true)=b->
      CS ht N D g0 w0 (λi=>listed.getD i false) g w a->wpAny P .any A Q b listed a w:=by
  have done:∀(listed:Array Bool) (g:Gh) (w:World) (a:Act),listed.size=A.size->(∀i,i<A.size->listed.getD i true=true)->CS ht N D g0 w0 (λi=>listed.getD i false) g w a->Q .normal a w:=by
    intro listed g w a hs c o;have:(λi=>listed.getD i false)=λi=>decide (i<A.size):=WZ
    grind
  have x:∀(listed:Array Bool),listed.size=A.size->Region.ready .any A listed=[]->∀i,i<A.size->listed.getD i true=true:=by
    intro listed hs hr i;induction i using Nat.strongRecOn with
    |ind i E=>
      intro X;cases hl:listed.getD i true with
      |true=>rfl
      |false=>
        have p:=Array.getElem?_eq_getElem X;have l:i∈Region.ready .any A listed:=by
          unfold Region.ready;rw[List.mem_filter];refine⟨mem_range.2 X, ?_⟩;rw[hl,p];simp only[Bool.not_false,Bool.true_and,Option.map_some,getD_some];rw[<-Array.all_toList,all_eq_true];intro e he;cases hb:Region.binds .any e with
          |false=>rfl
          |true=>have q:=hor.de i _ p e he hb;have:=E e.on q om;simp only[Array.getD_eq_getD_getElem?, Array.getElem?_eq_getElem (show e.on<listed.size by omega),getD_some]at this ⊢;simp[this]
        rw[hr]at l;cases l
  intro b;induction b with
  |zero=>
    intro listed g w a hs O o;have c:∀i,i<A.size->listed.getD i true=true:=by intro i X;rw[List.countP_eq_zero]at O;simpa using O i (mem_range.2 X)
    refine⟨?_,done listed g w a hs c o⟩;unfold Region.ready;rw[List.filter_eq_nil_iff];intro i X;rw[c i (mem_range.1 X)];simp
  |succ b E=>
    intro listed g w a hs O o;refine⟨λhr=>done listed g w a hs (x listed hs hr) o,λj m=> ?_⟩;unfold Region.ready at m;rw[List.mem_filter,mem_range]at m;obtain⟨hj,f⟩:=m;have p:=Array.getElem?_eq_getElem hj;rw[p]at f;simp only[and_eq_true,Option.map_some,getD_some]at f;rw[<-Array.all_toList,all_eq_true]at f;have k:j<listed.size:=om
    have hn:listed[j]=false:=by simpa [k]using f.1
    refine QF hor z o p (by simp[k,hn]) (λe he hb=> ?_) (λy w' g' r=>E _ g' w' y (by simpa using hs) ?_ ?_)
    · have:=f.2 e he
      rw[hb]at this;simpa using this
    · have v:∀(n:Nat),j<n->n<=A.size->(List.range n).countP (λi => !(listed.setIfInBounds j true).getD i true)+1=(List.range n).countP (λi => !listed.getD i true):=by
        intro n;induction n with
        |zero=>intro h;omega
        |succ n u=>
          intro h1 h2;rw[List.range_succ,List.countP_append,List.countP_append];by_cases e:j=n
          · subst e
            have hsame:(List.range j).countP (λi => !(listed.setIfInBounds j true).getD i true)=(List.range j).countP (λi => !listed.getD i true):=by
              apply List.countP_congr;intro i X;have:j≠i:=WW
              simp[this]
            rw[hsame];simp[k,hn]
          · have:=u om om
            have t:(listed.setIfInBounds j true).getD n true=listed.getD n true:=Z1
            simp only[List.countP_cons,List.countP_nil,t];omega
      have:=v A.size hj (le_refl _);omega
    · have:(λi=>(listed.setIfInBounds j true).getD i false)=iE (λi=>listed.getD i false) j:=by
        funext i
        unfold iE;by_cases e:i=j
        · subst e;simp[k]
        · simp[Ne.symm e,e]
      rw[this];exact r
end run
def Pb{id:Nat}{K:AX->AE->St->Prop}{N:Nat}{D:List Deferred}{g:Gh}{H:St}{s:AE}{w:World}(f:P.follows .mixedOrders=true)
    (p:∀d,(∃v∈A.toList,v.dst=some d)->d<N) (ha:a.tmps.size=N) (r:a.defers=D) (X:Inv g H w) (hs:A3 g w s a.tmps)
    (n:∀s' Y g' w' (b:Act),b.tmps.size=N->b.defers=D->Ar g w g' w'-> Inv g' Y w'-> A3 g' w' s' b.tmps->K .normal s' Y->Q .normal b w')
    (h:AD P A true K A.toList [] s H):(Code.region id A true).wp P Q a w:=by
  obtain⟨S,Z,T,V,ht,hS,q,c,l⟩:=Ka A.toList 0 [] s H Wb h;have hor:BK A T:=L7 XR;refine wp_region_any f (Ts (ht:=ht) (g0:=g) (w0:=w) (D:=D) (N:=N) hor p (λb w' g' e=> ?_) A.size _ g _ a Wb ?_ ?_)
  · simp only[Nat.zero_add,Array.length_toList]at c
    refine n (S A.size) (Z A.size) g' w' b e.size e.defers e.ext ?_ (λt=> ?_) c
    · have:=e.inv
      rw[L8 ht A.size (le_refl _) (λi X _=>Xt),Ma ht A.size (le_refl _) (λi X _=>Xt)]at this;exact this
    · have:=e.bw t
      rwa [Fw ht A.size (le_refl _) (λi o X _ _=>Xt)]at this
  · rw[List.countP_eq_length.2]
    · simp
    · simp_all
  · have hf:(λi=>(Array.replicate A.size false).getD i false)=λ_=>false:=by
      funext i
      by_cases h:i<A.size<;>simp[h]
    rw[hf];have hb:∀k,bAt Z T (λ_=>false) k=(Z 0).B:=by intro k;induction k with|zero=>rfl|succ k E=>rw[bAt,if_neg Wb,E]
    have m:∀k,tAt Z T (λ_=>false) k=(Z 0).T:=by intro k;induction k with|zero=>rfl|succ k E=>rw[tAt,if_neg Wb,E]
    have u:∀k t,valAt A (S 0) V (λ_=>false) k t=lk (S 0) t:=by intro k t;induction k with|zero=>rfl|succ k E=>rw[valAt,if_neg Wb,E]
    refine⟨λj o h=>Wp,ha,r,Ar.drew g w _, ?_,λt=> ?_⟩
    · rw[hb,m,q]
      exact X.drew _
    · rw[u,hS]
      exact Aa.mono (Ar.drew g w _).le _ _ (hs t)
end
def aBh(g:Gh)(w:World):AX->Exit->Prop
  | .normal,e=>e = .normal
  | .exit id,e=>e = .exit id
  | .goto l,e=>e = .goto l
  | .ret,e=>e = .ret
  | .pan x,e=>∃u,e = .panic [{ v:=u,recovered:=false }]/\Aa g w x u
mutual
def AV.K:AV->Bool
  | .ptr _ _ | .map _ | .iter _ | .aa _ _ _ _ _ | .ao _ _ _ _ _=>false
  | .view xs _=>aA xs
  | .agg cs=>aA cs
  | .tup cs=>aA cs
  | .slice xs t=>(match t with | .own _ _=>false|_=>true)&&aA xs
  | .ac x=>x.K
  | .fn _ fs cs=>aA fs&&aA cs
  | .iface _ x=>x.K
  |_=>true
def aA:List AV->Bool
  |[]=>true
  |x::xs=>x.K&&aA xs
end
mutual
def AV.ab(n m:Nat):AV->Bool
  | .ptr i _=>Nat.blt i n
  | .map i=>Nat.blt i n
  | .iter i=>Nat.blt i n
  | .view xs _=>aE n m xs
  | .aa k _ _ _ _=>Nat.blt k m
  | .ao k _ _ _ _=>Nat.blt k m
  | .agg cs=>aE n m cs
  | .tup cs=>aE n m cs
  | .slice xs t=>(match t with | .own k _=>Nat.blt k m|_=>true)&&aE n m xs
  | .ac x=>x.ab n m
  | .fn _ fs cs=>aE n m fs&&aE n m cs
  | .iface _ x=>x.ab n m
  |_=>true
def aE(n m:Nat):List AV->Bool
  |[]=>true
  |x::xs=>x.ab n m&&aE n m xs
end
mutual
theorem aF(n m:Nat):∀x:AV,x.K=true->x.ab n m=true
  | .undef,_=>rfl
  | .bool _,_=>rfl
  | .int _ _,_=>rfl
  | .str _,_=>rfl
  | .agg cs,h=>aD n m cs h
  | .tup cs,h=>aD n m cs h
  | .slice xs t,h=>by
    simp only[AV.K,and_eq_true]at h;simp only[AV.ab,and_eq_true];refine⟨?_,aD n m xs h.2⟩;cases t with
    |own k z=>exact absurd h.1 Wb
    |no=>rfl
    |full=>rfl
    |nil=>rfl
    |nn=>rfl
  | .ptr _ _,h=>by cases h
  | .ac x,h=>aF n m x h
  | .nilp,_=>rfl
  | .praw _,_=>rfl
  | .fn _ a cs,h=>by simp only[AV.K,and_eq_true]at h;simp only[AV.ab,and_eq_true];exact⟨aD n m a h.1,aD n m cs h.2⟩
  | .nilfn,_=>rfl
  | .iface _ x,h=>aF n m x h
  | .nili,_=>rfl
  | .map _,h=>by cases h
  | .nilmap,_=>rfl
  | .iter _,h=>by cases h
  | .view xs _,h=>aD n m xs h
  | .aa _ _ _ _ _,h=>by cases h
  | .ao _ _ _ _ _,h=>W0
theorem aD(n m:Nat):∀xs:List AV,aA xs=true->aE n m xs=true
  |[],_=>rfl
  |x::xs,h=>by simp only[aA,and_eq_true]at h;simp only[aE,and_eq_true];exact⟨aF n m x h.1,aD n m xs h.2⟩
end
def Gh.bf(g:Gh)(n m:Nat):Gh:=⟨g.bx.take n,g.tk.take m,g.im⟩
mutual
theorem Aa.ab{g:Gh}{w:World}:∀(x:AV) (v:Value),x.ab n m=true->Aa g w x v->Aa (g.bf n m) w x v
  | .undef,_,_,_=>trivial
  | .bool _,_,_,h=>h
  | .int _ _,_,_,h=>h
  | .str _,_,_,h=>h
  | .agg cs,_,O,⟨vs,e,l,c⟩=>⟨vs,e,AM.ab cs _ O l,c⟩
  | .tup cs,_,O,⟨vs,e,l⟩=>⟨vs,e,AM.ab cs _ O l⟩
  | .slice xs t,_,O,⟨a,cap,sz,Vs,e,c,d,h3,h4,j,f⟩=>by
    simp only[AV.ab,and_eq_true]at O;refine⟨a,cap,sz,Vs,e,c,d, ?_,AM.ab xs _ O.2 h4,j,f⟩;cases t with
    |own k z=>obtain⟨e1,r,p,q⟩:=h3;have hk:k<m:=le_of_ble_eq_true O.1;exact⟨e1,r,by show (g.tk.take m)[k]? =_;rw[getElem?_take_of_lt hk];exact p,q⟩
    |no=>exact h3
    |full=>exact h3
    |nil=>exact h3
    |nn=>exact h3
  | .ptr i _,_,O,⟨b,c,e⟩=>⟨b,by show (g.bx.take n)[i]? =_;rw[getElem?_take_of_lt (le_of_ble_eq_true O)];exact c,e⟩
  | .ac x,_,O,⟨b,o,V,e,c,d⟩=>⟨b,o,V,e,c,Aa.ab x _ O d⟩
  | .nilp,_,_,h=>h
  | .praw _,_,_,h=>h
  | .fn _ y cs,_,O,⟨vs,ws,e,c,d⟩=>by simp only[AV.ab,and_eq_true]at O;exact⟨vs,ws,e,AM.ab y _ O.1 c,AM.ab cs _ O.2 d⟩
  | .nilfn,_,_,h=>h
  | .iface _ x,_,O,⟨u,e,c⟩=>⟨u,e,Aa.ab x _ O c⟩
  | .nili,_,_,h=>h
  | .map i,_,O,⟨b,c,e⟩=>⟨b,by show (g.bx.take n)[i]? =_;rw[getElem?_take_of_lt (le_of_ble_eq_true O)];exact c,e⟩
  | .nilmap,_,_,h=>h
  | .iter i,_,O,⟨b,c,e⟩=>⟨b,by show (g.bx.take n)[i]? =_;rw[getElem?_take_of_lt (le_of_ble_eq_true O)];exact c,e⟩
  | .view xs _,_,O,⟨a,cap,sz,Vs,e,h0,c,d,h4,j,f⟩=>⟨a,cap,sz,Vs,e,h0,c,d,AM.ab xs _ O h4,j,f⟩
  | .aa k _ _ _ _,_,O,⟨a,cap,e,c,d,h3,h4,j,r,hr,f⟩=>⟨a,cap,e,c,d,h3,h4,j,r,by show (g.tk.take m)[k]? =_;rw[getElem?_take_of_lt (le_of_ble_eq_true O)];exact hr,f⟩
  | .ao k _ _ _ _,_,O,⟨b,o,e,hj,r,hr,f⟩=>⟨b,o,e,hj,r,by show (g.tk.take m)[k]? =_;rw[getElem?_take_of_lt (le_of_ble_eq_true O)];exact hr,f⟩
theorem AM.ab{g:Gh}{w:World}:∀(cs:List AV) (vs:List Value),aE n m cs=true->AM g w cs vs->AM (g.bf n m) w cs vs
  |[],_,_,h=>h
  |c::cs,_,O,⟨v,C,e,a,b⟩=>by simp only[aE,and_eq_true]at O;exact⟨v,C,e,Aa.ab c _ O.1 a,AM.ab cs _ O.2 b⟩
end
def oS(n m:Nat):List (AV×AV)->Bool
  |[]=>true
  |(k,v)::l=>k.ab n m&&v.ab n m&&oS n m l
def Ob.ab(n m:Nat):Ob->Bool
  | .cells cs=>aE n m cs
  | .map es=>oS n m es
  | .iter _ _=>true
def aQ(n m:Nat):List Ob->Bool
  |[]=>true
  |o::B=>o.ab n m&&aQ n m B
def aM(n m:Nat):AE->Bool
  |[]=>true
  |(_,v)::s=>v.ab n m&&aM n m s
def Tok.ab(n m:Nat):Tok->Bool
  | .len _=>true
  | .aa xs=>aE n m xs
def aL(n m:Nat):List Tok->Bool
  |[]=>true
  |t::T=>t.ab n m&&aL n m T
def yT{n m:Nat}:∀ {T:List Tok} {i:Nat} {t:Tok},aL n m T=true->T[i]? =some t->t.ab n m=true
  |o::B,0,ob,h,X=>by simp only[aL,and_eq_true]at h;simp at X;subst X;exact h.1
  |o::B,i+1,ob,h,X=>by simp only[aL,and_eq_true]at h;exact yT h.2 Xt
  |[],i,ob,_,X=>XX
theorem As.ab{g:Gh}{w:World}:∀(l:List (AV×AV)) (es:List MapEntry),oS n m l=true->As g w l es->As (g.bf n m) w l es
  |[],_,_,h=>h
  |(k,v)::l,_,hb,⟨e,C,he,a,b,h3⟩=>by simp only[oS,and_eq_true]at hb;exact⟨e,C,he,Aa.ab k _ hb.1.1 a,Aa.ab v _ hb.1.2 b,As.ab l _ hb.2 h3⟩
theorem BJ.ab{g:Gh}{w:World}{b:Nat}{ob:Ob}(h:ob.ab n m=true)(f:BJ g w b ob):BJ (g.bf n m) w b ob:=by
  cases ob with
  |cells cs=>obtain⟨J,R,d,e,h3⟩:=f;exact⟨J,R,d,AM.ab cs _ h e,h3⟩
  |map es=>obtain⟨c,a,d,e⟩:=f;exact⟨c,a,d,As.ab es _ h e⟩
  |iter s p=>exact f
theorem A6.ab{g:Gh}{w:World}{r:A8}{t:Tok}(h:t.ab n m=true)(a:A6 g w r t):A6 (g.bf n m) w r t:=by
  cases t with
  |len n=>exact a
  |aa xs=>obtain⟨b,c,h3,Vs,h4,d⟩:=a;exact⟨b,c,h3,Vs,AM.ab xs _ h h4,d⟩
def yU{n m:Nat}:∀ {B:List Ob} {i:Nat} {ob:Ob},aQ n m B=true->B[i]? =some ob->ob.ab n m=true
  |o::B,0,ob,h,X=>by simp only[aQ,and_eq_true]at h;simp at X;subst X;exact h.1
  |o::B,i+1,ob,h,X=>by simp only[aQ,and_eq_true]at h;exact yU h.2 Xt
  |[],i,ob,_,X=>XX
def rM{n m:Nat}:∀ {s:AE},aM n m s=true->∀t,(lk s t).ab n m=true
  |[],_,_=>rfl
  |(t', v)::s,h,t=>by
    simp only[aM,and_eq_true]at h;unfold lk;cases Nat.beq t' t with
    |true=>exact h.1
    |false=>exact rM h.2 t
def pK{g:Gh}{H:St}{w:World}(X:Inv g H w)(f:aQ n m (H.B.take n)=true)(hT:aL n m (H.T.take m)=true):Inv (g.bf n m) ⟨H.B.take n,H.T.take m⟩ w where
  lenB:=by simp[Gh.bf,X.lenB]
  lenT:=by simp[Gh.bf,X.lenT]
  ob i b ob h1 h2:=by
    have e1:g.bx[i]? =some b:=by
      have a:i<n:=by have:=(List.getElem?_eq_some_iff.1 h1).1;simp[Gh.bf]at this;omega
      rw[<-h1];exact(getElem?_take_of_lt a).symm
    have d:H.B[i]? =some ob:=WZ
    exact(X.ob i b ob e1 d).ab (yU f h2)
  nodup:=X.nodup.sublist (List.take_sublist _ _);noim b hb o:=X.noim b (List.mem_of_mem_take hb) o;tok k x r h1 h2:=by
    have a:k<m:=by have:=(List.getElem?_eq_some_iff.1 h1).1;simp[Gh.bf]at this;omega
    refine A6.ab (yT hT h2) ?_;exact X.tok k x r (by rw[<-h1];exact(getElem?_take_of_lt a).symm) (by rw[<-h2];exact(getElem?_take_of_lt a).symm)
  tkz k r h1 b o ho:=by
    have a:k<m:=by have:=(List.getElem?_eq_some_iff.1 h1).1;simp[Gh.bf]at this;omega
    obtain⟨e1,d,e⟩:=X.tkz k r (by rw[<-h1];exact(getElem?_take_of_lt a).symm) b o ho;exact⟨e1,λhb=>d (List.mem_of_mem_take hb),e⟩
  tkd k k' r r' hne h1 h2 b o:=by
    have a:k<m:=by have:=(List.getElem?_eq_some_iff.1 h1).1;simp[Gh.bf]at this;omega
    have c:k'< m:=by have:=(List.getElem?_eq_some_iff.1 h2).1;simp[Gh.bf]at this;omega
    exact X.tkd k k' r r' hne (by rw[<-h1];exact(getElem?_take_of_lt a).symm) (by rw[<-h2];exact(getElem?_take_of_lt c).symm) b o
  imlt:=X.imlt;gl:=X.gl
def rN{g0 g:Gh}{w:World}(h:Ar g0 w0 g w)(hn:g0.bx.length<=n)(e:g0.tk.length<=m):Ar g0 w0 (g.bf n m) w where
  le:=⟨h.le.im,λi b X=>by
      show (g.bx.take n)[i]? =_;rw[getElem?_take_of_lt (by have:=(List.getElem?_eq_some_iff.1 X).1;omega)];exact h.le.bx i b X,λk r hk=>by
      obtain⟨r', c,d⟩:=h.le.tk k r hk;refine⟨r', ?_,d⟩;show (g.tk.take m)[k]? =_;rw[getElem?_take_of_lt (by have:=(List.getElem?_eq_some_iff.1 hk).1;omega)];exact c⟩
  size:=h.size;os:=h.os;tape:=h.tape;output:=h.output;fr:=h.fr;frc:=h.frc;newim:=h.newim;newbx b hb:=h.newbx b (List.mem_of_mem_take hb);newz k r hk b o ho:=by
    have a:k<m:=by have:=(List.getElem?_eq_some_iff.1 hk).1;simp[Gh.bf]at this;omega
    exact h.newz k r (by rw[<-hk];exact(getElem?_take_of_lt a).symm) b o ho
mutual
theorem oB{im:Nat->Nat->Prop}{bx f:List Nat}{tk l:List A8}{w:World}:∀(x:AV) (v:Value),x.K=true->Aa ⟨bx,tk,im⟩ w x v->Aa ⟨f,l,im⟩ w x v
  | .undef,_,_,_=>trivial
  | .bool _,_,_,h=>h
  | .int _ _,_,_,h=>h
  | .str _,_,_,h=>h
  | .agg cs,_,O,⟨vs,e,j,c⟩=>⟨vs,e,jY cs _ O j,c⟩
  | .tup cs,_,O,⟨vs,e,j⟩=>⟨vs,e,jY cs _ O j⟩
  | .slice xs t,_,O,⟨a,cap,sz,Vs,e,c,d,h3,h4,g,i⟩=>by
    simp only[AV.K,and_eq_true]at O;refine⟨a,cap,sz,Vs,e,c,d, ?_,jY xs _ O.2 h4,g,i⟩;cases t with
    |own k z=>exact absurd O.1 Wb
    |no=>exact h3
    |full=>exact h3
    |nil=>exact h3
    |nn=>exact h3
  | .ptr _ _,_,O,_=>by cases O
  | .ac x,_,O,⟨b,o,V,e,c,d⟩=>⟨b,o,V,e,c,oB x _ O d⟩
  | .nilp,_,_,h=>h
  | .praw _,_,_,h=>h
  | .fn _ m cs,_,O,⟨vs,ws,e,c,d⟩=>by simp only[AV.K,and_eq_true]at O;exact⟨vs,ws,e,jY m _ O.1 c,jY cs _ O.2 d⟩
  | .nilfn,_,_,h=>h
  | .iface _ x,_,O,⟨u,e,c⟩=>⟨u,e,oB x _ O c⟩
  | .nili,_,_,h=>h
  | .map _,_,O,_=>by cases O
  | .nilmap,_,_,h=>h
  | .iter _,_,O,_=>by cases O
  | .view xs _,_,O,⟨a,cap,sz,Vs,e,h0,c,d,h4,g,i⟩=>⟨a,cap,sz,Vs,e,h0,c,d,jY xs _ O h4,g,i⟩
  | .aa _ _ _ _ _,_,O,_=>by cases O
  | .ao _ _ _ _ _,_,O,_=>by cases O
theorem jY{im:Nat->Nat->Prop}{bx a:List Nat}{tk b:List A8}{w:World}:∀(cs:List AV) (vs:List Value),aA cs=true->AM ⟨bx,tk,im⟩ w cs vs->AM ⟨a,b,im⟩ w cs vs
  |[],_,_,h=>h
  |c::cs,_,O,⟨v,C,e,d,f⟩=>by simp only[aA,and_eq_true]at O;exact⟨v,C,e,oB c _ O.1 d,jY cs _ O.2 f⟩
end
def Bw(g0:Gh)(w0:World)(N:Nat)(D:List Deferred)(K:AX->AE->St->Prop):Exit->Act->World->Prop:=λe a w=>
  ∃ae s H g,aBh g w ae e/\a.tmps.size=N/\a.defers=D/\Ar g0 w0 g w/\Inv g H w/\A3 g w s a.tmps/\K ae s H
def AB(P:Program)(N:Nat)(D:List Deferred)(c:Code)(K:AX->AE->St->Prop)(s:AE)(H:St):Prop:=
  ∀(g:Gh) (w:World) (a:Act),Inv g H w->A3 g w s a.tmps->a.tmps.size=N->a.defers=D->c.wp P (Bw g w N D K) a w
def thn(next:AE->St->Prop)(K:AX->AE->St->Prop):AX->AE->St->Prop
  | .normal=>next
  | .exit id=>K (.exit id)
  | .goto l=>K (.goto l)
  | .ret=>K .ret
  | .pan x=>K (.pan x)
def blk(id:Nat)(K:AX->AE->St->Prop):AX->AE->St->Prop
  | .normal=>K .normal
  | .exit id'=> bif Nat.beq id' id then K .normal else K (.exit id')
  | .goto l=>K (.goto l)
  | .ret=>K .ret
  | .pan x=>K (.pan x)
def scp(K:AX->AE->St->Prop):AX->AE->St->Prop
  | .normal=>K .normal
  | .exit id=>K (.exit id)
  | .goto _=>λ_ _=>False
  | .ret=>K .ret
  | .pan x=>K (.pan x)
def Sub:AE->AE->Prop
  |[],_=>True
  |(t,v)::s,s'=> lk s' t=v/\Sub s s'
theorem Sub.a6{g:Gh}{w:World}{a:Array Value}{s': AE}(hs:A3 g w s' a):∀ {s:AE},Sub s s'-> A3 g w s a
  |[],_,_=>trivial
  |(t,v)::s,h,u=>by
    unfold lk;cases e:Nat.beq t u with
    |true=>have:=Nat.eq_of_beq_eq_true e;subst this;have b:=hs t;rw[h.1]at b;exact b
    |false=>exact Sub.a6 hs h.2 u
section
variable {P:Program} {N:Nat} {D:List Deferred} {K:AX->AE->St->Prop} {s:AE} {H:St}
theorem Bw.trans{g b:Gh}{w c:World}(h:Ar g w b c){e:Exit}{w': World}(hp:Bw b c N D K e a w'):Bw g w N D K e a w':=
  let ⟨d,s,H,g', f,i,h3,h4,j⟩:=hp;⟨d,s,H,g', f,i,h3,h.trans h4,j⟩
theorem AB.weaken{s': AE}(h:AB P N D c K s H)(hs:Sub s s'):AB P N D c K s' H:=λg w a X hr ha b=>h g w a X (hs.a6 hr) ha b
theorem AB.mono{K': AX->AE->St->Prop}(h:AB P N D c K s H)(hk:∀e s H,K e s H->K' e s H):AB P N D c K' s H:=λg w a X hr ha d=>wp_mono (h g w a X hr ha d) λ_ _ _ ⟨b,s,H,g', h1,h2,h3,h4,h5,h6,h7⟩=>⟨b,s,H,g', h1,h2,h3,h4,h5,h6,hk _ _ _ h7⟩
def AB.skip(h:K .normal s H):AB P N D .skip K s H:=λg w a X hr ha b=>wp_skip ⟨.normal,s,H,g,rfl,ha,b,eV g w,X,hr,h⟩
def AB.label{l:Nat}(h:K .normal s H):AB P N D (.label l) K s H:=λg w a X hr ha b=>wp_label ⟨.normal,s,H,g,rfl,ha,b,eV g w,X,hr,h⟩
def AB.exit{id:Nat}(h:K (.exit id) s H):AB P N D (.exit id) K s H:=λg w a X hr ha b=>wp_exit ⟨.exit id,s,H,g,rfl,ha,b,eV g w,X,hr,h⟩
theorem AB.ret(h:K .ret s H):AB P N D .ret K s H:=λg w a X hr ha b=>wp_ret ⟨.ret,s,H,g,rfl,ha,b,eV g w,X,hr,h⟩
def AB.seq{x:Code}(h:AB P N D x (thn (AB P N D y K) K) s H):AB P N D (.seq x y) K s H:=λg w a X hr ha d=>by
  refine wp_seq (wp_mono (h g w a X hr ha d) ?_);rintro e b w' ⟨c,s', Y,g', h1,h2,h3,h4,h5,h6,h7⟩;cases c with
  |normal=>cases (show e = .normal from h1);exact wp_mono (h7 g' w' b h5 h6 h2 h3) λ_ _ _ hp=>hp.trans h4
  |exit id=>cases (show e = .exit id from h1);exact⟨.exit id,s', Y,g', rfl,h2,h3,h4,h5,h6,h7⟩
  |goto l=>cases (show e = .goto l from h1);exact⟨.goto l,s', Y,g', rfl,h2,h3,h4,h5,h6,h7⟩
  |ret=>cases (show e = .ret from h1);exact⟨.ret,s', Y,g', rfl,h2,h3,h4,h5,h6,h7⟩
  |pan x=>obtain⟨u,rfl,f⟩:=h1;exact⟨.pan x,s', Y,g', ⟨u,rfl,f⟩,h2,h3,h4,h5,h6,h7⟩
theorem AB.block{id:Nat}(h:AB P N D c (blk id K) s H):AB P N D (.block id c) K s H:=λg w a X hr ha f=>by
  refine wp_block (wp_mono (h g w a X hr ha f) ?_);rintro e k w' ⟨d,s', Y,g', h1,h2,h3,h4,h5,h6,h7⟩;cases d with
  |normal=>cases (show e = .normal from h1);exact⟨.normal,s', Y,g', rfl,h2,h3,h4,h5,h6,h7⟩
  |exit b=>
    cases (show e = .exit b from h1);show ite _ _ _;by_cases e:b=id
    · subst e;rw[if_pos rfl];refine⟨.normal,s', Y,g', rfl,h2,h3,h4,h5,h6, ?_⟩;simpa [blk]using h7
    · rw[if_neg e];refine⟨.exit b,s', Y,g', rfl,h2,h3,h4,h5,h6, ?_⟩;have:Nat.beq b id=false:=by
        cases i:Nat.beq b id with
        |false=>rfl
        |true=>exact absurd (Nat.eq_of_beq_eq_true i) e
      simpa [blk,this]using h7
  |goto l=>cases (show e = .goto l from h1);exact⟨.goto l,s', Y,g', rfl,h2,h3,h4,h5,h6,h7⟩
  |ret=>cases (show e = .ret from h1);exact⟨.ret,s', Y,g', rfl,h2,h3,h4,h5,h6,h7⟩
  |pan x=>obtain⟨u,rfl,j⟩:=h1;exact⟨.pan x,s', Y,g', ⟨u,rfl,j⟩,h2,h3,h4,h5,h6,h7⟩
def AB.scope(h:AB P N D c (scp K) s H):AB P N D (.scope c) K s H:=λg w a X hr ha d=>by
  refine wp_scope_straight (wp_mono (h g w a X hr ha d) ?_);rintro e i w' ⟨b,s', Y,g', h1,h2,h3,h4,h5,h6,h7⟩;cases b with
  |normal=>cases (show e = .normal from h1);exact⟨.normal,s', Y,g', rfl,h2,h3,h4,h5,h6,h7⟩
  |exit id=>cases (show e = .exit id from h1);exact⟨.exit id,s', Y,g', rfl,h2,h3,h4,h5,h6,h7⟩
  |goto l=>exact h7.elim
  |ret=>cases (show e = .ret from h1);exact⟨.ret,s', Y,g', rfl,h2,h3,h4,h5,h6,h7⟩
  |pan x=>obtain⟨u,rfl,f⟩:=h1;exact⟨.pan x,s', Y,g', ⟨u,rfl,f⟩,h2,h3,h4,h5,h6,h7⟩
def pC{c:Operand}{x:Code}(O:ev s c = .bool true)(h:AB P N D x K s H):AB P N D (.cond c x y) K s H:=λg w a X hr ha d=>by have b:=FC X.gl hr c;rw[O]at b;exact wp_cond_true b (h g w a X hr ha d)
def oA{c:Operand}{x:Code}(O:ev s c = .bool false)(h:AB P N D y K s H):AB P N D (.cond c x y) K s H:=λg w a X hr ha d=>by have b:=FC X.gl hr c;rw[O]at b;exact wp_cond_false b (h g w a X hr ha d)
def AB.cond{c:Operand}{x:Code}(O:ev s c = .bool b)(ht:b=true->AB P N D x K s H)(hf:b=false->AB P N D y K s H):AB P N D (.cond c x y) K s H:=by
  cases b with
  |true=>exact pC O (ht rfl)
  |false=>exact oA O (hf rfl)
def Ei(J:Nat->Act->World->Prop)
    (p:∀n a w,J n a w->c.wp P (Exit.then (λq w'=> ∃m,m<n/\J m q w') Q) a w) {w:World} (h:J n a w):(Code.loop c).wp P Q a w:=by
  intro b k cs;have v:∀n a w,J n a w->∃e q w', Q e q w'/\ Arrives P (lone (b.at a (.code c :: .inLoop c::k)) cs w) b k cs e q w':= by
    intro n;induction n using Nat.strongRecOn with
    |ind n E=>
      intro a w h;obtain⟨e,f,g,j,d⟩:=p n a w h b (.inLoop c::k) cs;cases e with
      |normal=>obtain⟨m,z,y⟩:=j;obtain⟨t,r,u,o,i⟩:=E m z f g y;exact⟨t,r,u,o, .of_steps (Steps.trans d (.one step_inLoop)) i⟩
      |exit id=>exact⟨_,f,g,j, .pass (x := .inLoop c) rfl (λ_ _ => .inl Wb) d⟩
      |goto l=>exact⟨_,f,g,j, .pass (x := .inLoop c) rfl (λ_ _ => .inl Wb) d⟩
      |ret=>exact⟨_,f,g,j, .pass (x := .inLoop c) rfl (λ_ _ => .inl Wb) d⟩
      |panic ch=>exact⟨_,f,g,j, .pass (x := .inLoop c) rfl (λ_ _ => .inl Wb) d⟩
      |outgrown=>exact⟨_,f,g,j, .pass (x := .inLoop c) rfl (λ_ _ => .inl Wb) d⟩
  obtain⟨e,q,w', j,d⟩:=v n a w h;exact⟨e,q,w', j, .of_steps (.one step_loop) d⟩
def J8{c:Operand}{x:Code}(O:ev s c = .bool b)(hb:b=true)(h:AB P N D x K s H):AB P N D (.cond c x y) K s H:=pC (by rw[O,hb]) h
def L6{c:Operand}{x:Code}(O:ev s c = .bool b)(hb:b=false)(h:AB P N D y K s H):AB P N D (.cond c x y) K s H:=oA (by rw[O,hb]) h
theorem AB.loop(I:Nat->AE->St->Prop){s0:AE}(z:Sub s0 s)(h0:I n s0 H)
    (d:∀n f b,I n f b->AB P N D c (thn (λs' Y=>∃m,m<n/\∃j,Sub j s'/\ aM H.B.length H.T.length j=true/\(aQ H.B.length H.T.length (Y.B.take H.B.length)&&aL H.B.length H.T.length (Y.T.take H.T.length))=true/\
      I m j ⟨Y.B.take H.B.length,Y.T.take H.T.length⟩) K) f b):AB P N D (.loop c) K s H:=λg w a X hr ha y=>by
  refine Ei (λn k w'=> ∃f b h,I n f b/\Ar g w h w'/\ Inv h b w'/\ A3 h w' f k.tmps/\k.tmps.size=N/\k.defers=D) ?_ (n:=n) ⟨s0,H,g,h0,eV g w,X,z.a6 hr,ha,y⟩;have p:=X.lenB;have a1:=X.lenT;rintro n a w1 ⟨f,b,h,hI,hx,X,hr,ha,y⟩;refine wp_mono (d n f b hI h w1 a X hr ha y) ?_;rintro e k w' ⟨ae,s', Y,g', e1,e2,e3,e4,e5,e6,e7⟩;cases ae with
  |normal=>cases (show e = .normal from e1);obtain⟨m,hm,j,a0,v,i,o⟩:=e7;obtain⟨q,r⟩:=(and_eq_true _ _).mp i;exact⟨m,hm,j,_,_,o,rN (hx.trans e4) (Nat.le_of_eq p) (Nat.le_of_eq a1),pK e5 q r,λt=>Aa.ab _ _ (rM v t) (a0.a6 e6 t),e2,e3⟩
  |exit id=>cases (show e = .exit id from e1);exact⟨.exit id,s', Y,g', rfl,e2,e3,hx.trans e4,e5,e6,e7⟩
  |goto l=>cases (show e = .goto l from e1);exact⟨.goto l,s', Y,g', rfl,e2,e3,hx.trans e4,e5,e6,e7⟩
  |ret=>cases (show e = .ret from e1);exact⟨.ret,s', Y,g', rfl,e2,e3,hx.trans e4,e5,e6,e7⟩
  |pan x=>obtain⟨u,rfl,hu⟩:=e1;exact⟨.pan x,s', Y,g', ⟨u,rfl,hu⟩,e2,e3,hx.trans e4,e5,e6,e7⟩
def Cf(N:Nat):List Oper->Bool
  |[]=>true
  |o::C=>(match o.dst with|some d=>Nat.blt d N|none=>true)&&Cf N C
def yV{N:Nat}:∀ {l:List Oper},Cf N l=true->∀d,(∃b∈l,b.dst=some d)->d<N
  |[],_,_,⟨_,h,_⟩=>by cases h
  |o::C,h,d,⟨b,a,c⟩=>by
    unfold Cf at h;rw[and_eq_true]at h;rcases List.mem_cons.1 a with rfl|a
    · simp_all
    · exact yV h.2 d ⟨b,a,c⟩
def AB.region{id:Nat}{b:Array Oper}(k:Cf N b.toList=true)(h:AD P b false K b.toList [] s H):AB P N D (.region id b false) K s H:=λg w a X hr ha l=>
  wp_region_list (Fs (Q:=Bw g w N D K) (g0:=g) (w0:=w) (D:=D) (K:=K) (yV k)
    (λs' Y g' w' i c d h3 h4 e f=>⟨.normal,s', Y,g', rfl,c,d,h3,h4,e,f⟩)
    (λx s' Y g' w' i u c d h3 h4 e f j=>⟨.pan x,s', Y,g', ⟨u,rfl,j⟩,c,d,h3,h4,e,f⟩)
    b.toList [] s H g w a (λ_ h=>h) ha l (eV g w) X hr h)
def vJ{id:Nat}{b:Array Oper}(c:P.follows .mixedOrders=true)(j:Cf N b.toList=true)(h:AD P b true K b.toList [] s H):AB P N D (.region id b true) K s H:=λg w a X hr ha k=>
  Pb (Q:=Bw g w N D K) c (yV j) ha k X hr
    (λs' Y g' w' l d e h3 h4 f i=>⟨.normal,s', Y,g', rfl,d,e,h3,h4,f,i⟩) h
inductive Av where
  |ret (v:AV)
  |pan (v:AV)
def QA(g:Gh)(w:World):Av->Ending->Prop
  | .ret v,e=>∃u,e = .returned u/\Aa g w v u
  | .pan v,e=>∃u,e = .panicked [{ v:=u,recovered:=false }]/\Aa g w v u
def Ax(P:Program)(f:FuncId):Prop:=∃fn,P.funcs[f]? =some fn/\(fn.name == "runtime.NumGoroutine")=false/\fn.body.isNone=false
def AI(P:Program)(f:FuncId)(args:List AV)(H:St)(o:Av->St->Prop):Prop:=
  Ax P f/\∀(g:Gh) (w:World) (J:Array Value),Inv g H w->AM g w args J.toList->
    Calls P f J w λe w'=> ∃g' Y x,Ar g w g' w'/\ Inv g' Y w'/\ QA g' w' x e/\o x Y
def AN(P:Program)(f:FuncId)(args:List AV)(r:AV):Prop:=
  Ax P f/\aA args=true/\∀(im:Nat->Nat->Prop) (w:World) (J:Array Value),(∀b o,im b o->b<w.heap.size)->Aq im w->AM ⟨[],[],im⟩ w args J.toList->
    Calls P f J w λe w'=> ∃im', Ar ⟨[],[],im⟩ w ⟨[],[],im'⟩ w'/\ (∀b o,im' b o->b<w'.heap.size)/\∃u,e = .returned u/\Aa ⟨[],[],im'⟩ w' r u
def cD:Nat->List AV->AE
  |_,[]=>[]
  |k,v::vs=>(k,v)::cD (k+1) vs
theorem kL:∀(vs:List AV) (k t:Nat),lk (cD k vs) t=if t<k then .undef else (vs[t-k]?).getD .undef
  |[],k,t=>by simp[cD,lk]
  |v::vs,k,t=>by
    simp only[cD,lk];cases e:Nat.beq k t with
    |true=>simp_all
    |false=>have a:k≠t:=Nat.ne_of_beq_eq_false e;rw[cond_false,kL vs (k+1) t];grind
def gG(s:AE):List Nat->AV
  |[t]=>lk s t
  |ts => .tup (ts.map (lk s))
def I7(tmps:Array Value):List Nat->Value
  |[t]=>tmps.getD t undef
  |ts => .tuple (ts.map λt=>tmps.getD t undef).toArray
def J9{fn:Func}{ts:List Nat}(h:fn.results=(ts.map ResultVar.tmp).toArray)(hn:ts.length<=6)(g:Array Value)(P:Program)(w:World):
    (results fn g).run P w = .ok (I7 g ts) w:=by
  match ts,hn with
  |[],_=>simp[results,h,I7]
  |[a],_=>simp[results,h,I7]
  |[a,b],_=>simp[results,h,I7]
  |[a,b,c],_=>simp[results,h,I7]
  |[a,b,c,d],_=>simp[results,h,I7]
  |[a,b,c,d,e],_=>simp[results,h,I7]
  |[a,b,c,d,e,f],_=>simp[results,h,I7]
  |_::_::_::_::_::_::_::_,hn=>simp at hn
theorem HN{g:Gh}{w:World}{s:AE}{a:Array Value}(hs:A3 g w s a):∀ts:List Nat,AM g w (ts.map (lk s)) (ts.map λt=>a.getD t undef)
  |[]=>rfl
  |t::ts=>⟨_,_,rfl,hs t,HN hs ts⟩
def Pa{g:Gh}{w:World}{s:AE}{c:Array Value}(hs:A3 g w s c)(ts:List Nat):
    Aa g w (gG s ts) (I7 c ts):=by
  match ts with
  |[t]=>exact hs t
  |[]=>exact⟨#[],rfl,rfl⟩
  |a::b::ts=>exact⟨_,rfl,by simpa using HN hs (a::b::ts)⟩
def fin(ts:List Nat)(o:Av->St->Prop):AX->AE->St->Prop
  | .normal=>λs H=>o (.ret (gG s ts)) H
  | .ret=>λs H=>o (.ret (gG s ts)) H
  | .pan x=>λ_ H=>o (.pan x) H
  |_=>λ_ _=>False
theorem AI.enter{f:FuncId}{fn:Func}{args:List AV}{H:St}{o:Av->St->Prop}(ts:List Nat){N:Nat}(hf:P.funcs[f]? =some fn)(hb:fn.body=some c)(hN:fn.ntmps=N)
    (d:(fn.name == "runtime.NumGoroutine")=false) (b:Nat.ble args.length N=true) (j:fn.results=(ts.map ResultVar.tmp).toArray) (hn:ts.length<=6)
    (h:AB P N [] c (fin ts o) (cD 0 args) H):AI P f args H o:=by
  refine⟨⟨fn,hf,d,YF⟩,λg w J X m=> ?_⟩;have k:args.length<=N:=le_of_ble_eq_true b;have n:J.size=args.length:=by simpa using m.length
  refine calls_of_wp hf hb (wp_mono (h g w _ X (λt=> ?_) ?_ rfl) ?_)
  · rw[kL]
    cases e:args[t]? with
    |none=>trivial
    |some v=>
      obtain⟨u,i,r⟩:=m.get e;have:(J++Array.replicate (fn.ntmps-J.size) undef).getD t undef=u:=by rw[Array.getElem?_toList]at i;have y:=(Array.getElem?_eq_some_iff.1 i).1;simp only[Array.getD_eq_getD_getElem?];grind
      simp_all
  · simp;omega
  · rintro e a w' ⟨q,s', Y,g', i,r,h3,h4,h5,h6,h7⟩
    have hr:=J9 j hn a.tmps P w';have p:=Pa h6 ts;cases q with
    |normal=>cases (show e = .normal from i);exact⟨h3,_,hr,g', Y, .ret _,h4,h5,⟨_,rfl,p⟩,h7⟩
    |ret=>cases (show e = .ret from i);exact⟨h3,_,hr,g', Y, .ret _,h4,h5,⟨_,rfl,p⟩,h7⟩
    |exit id=>exact h7.elim
    |goto l=>exact h7.elim
    |pan x=>obtain⟨u,rfl,z⟩:=i;exact⟨h3,g', Y, .pan x,h4,h5,⟨u,rfl,z⟩,h7⟩
end
def AC(x y:AV):Prop:=∀(g:Gh) (w:World) (v:Value),Aa g w x v->Aa g w y v
def AA(xs ys:List AV):Prop:=∀(g:Gh) (w:World) (vs:List Value),AM g w xs vs->AM g w ys vs
def aG(x:AV):AC x x:=λ_ _ _ h=>h
theorem AC.undef(x:AV):AC x .undef:=λ_ _ _ _=>trivial
theorem aB(xs:List AV):AA xs xs:=λ_ _ _ h=>h
theorem AA.cons{x y:AV}{xs ys:List AV}(h:AC x y)(hs:AA xs ys):AA (x::xs) (y::ys):=λg w _ ⟨v,C,e,h1,h2⟩=>⟨v,C,e,h g w _ h1,hs g w _ h2⟩
theorem AC.agg{xs ys:List AV}(h:AA xs ys):AC (.agg xs) (.agg ys):=λg w _ ⟨vs,e,h1,h2⟩=>⟨vs,e,h g w _ h1,h2⟩
theorem AC.tup{xs ys:List AV}(h:AA xs ys):AC (.tup xs) (.tup ys):=λg w _ ⟨vs,e,h1⟩=>⟨vs,e,h g w _ h1⟩
theorem AC.no{xs ys:List AV}{t:Tk}(h:AA xs ys):AC (.slice xs t) (.slice ys .no):=λg w _ ⟨a,cap,sz,Vs,e,h1,h2,_,h4,h5,h6⟩=>⟨a,cap,sz,Vs,e,h1,h2,trivial,h g w _ h4,h5,h6⟩
section
variable {P:Program}
theorem AI.plain{f:FuncId}{args:List AV}{r:AV}(O:r.K=true)(ha:aA args=true)(h:AI P f args ⟨[],[]⟩ (λe _=>∃v,e = .ret v/\AC v r)):AN P f args r:=by
  refine⟨h.1,ha,λim w J c a j=> ?_⟩;have X:Inv ⟨[],[],im⟩ ⟨[],[]⟩ w:=⟨rfl,rfl,λi b ob h=>Wp,List.nodup_nil,λb h=>Wp,λk t r h=>Wp,λk r h=>Wp,
    λk n r r' _ h=>Wp,c,a⟩
  refine(h.2 _ w J X j).mono ?_;rintro e w' ⟨g', Y,x,h1,h2,h3,v,rfl,hw⟩;obtain⟨u,rfl,l⟩:=h3;obtain⟨g,m,d⟩:=g';refine⟨d,⟨⟨h1.le.im,λi b h=>Wp,λk r h=>Wp⟩,h1.size,h1.os,h1.tape,h1.output,h1.fr,h1.frc,h1.newim,λb h=>Wp,λk r h=>Wp⟩,h2.imlt,u,rfl,oB r u O (hw _ _ _ l)⟩
end
def vK{g:Gh}{H:St}{w w': World}{a:Nat->Nat->Prop}(X:Inv g H w)(hx:Ar ⟨[],[],g.im⟩ w ⟨[],[],a⟩ w')(y:∀b o,a b o->b<w'.heap.size):
    Ar g w ⟨g.bx,g.tk,a⟩ w'/\ Inv ⟨g.bx,g.tk,a⟩ H w':= by
  have j:∀b,b<w.heap.size->w'.heap[b]? =w.heap[b]? :=λb hb=>hx.fr b hb Wb (λk r h=>Wp)
  have c:∀b o,b<w.heap.size->w'.cell? ⟨b,o,none⟩=w.cell? ⟨b,o,none⟩/\w'.frozen? ⟨b,o,none⟩=w.frozen? ⟨b,o,none⟩:=λb o hb=>hx.frc b o hb Wb (λk r h=>Wp)
  have e:∀b o,a b o->g.im b o\/w.heap.size<=b:=λb o h=>by
    rcases hx.newim b o h with h|h|⟨k,r,h,_⟩
    · exact .inl h
    · exact .inr h
    · simp at h
  have n:∀b,b∈g.bx->b<w.heap.size:=λb hb=>by
    obtain⟨i,l,rfl⟩:=List.getElem_of_mem hb;have p:i<H.B.length:=by rw[<-X.lenB];exact l
    exact(X.ob i _ _ (List.getElem?_eq_getElem l) (List.getElem?_eq_getElem p)).lt
  have hz:∀(k:Nat) (r:A8),g.tk[k]? =some r->∀b o,r.a1 b o->b<w.heap.size:=λk r hk b o f=>by
    obtain⟨v,u⟩:=(X.tkz k r hk b o f).2.2.1;unfold World.cell? at u;cases hb:w.heap[b]? with
    |none=>simp[hb]at u
    |some x=>exact(Array.getElem?_eq_some_iff.1 hb).1
  have d:Le g w ⟨g.bx,g.tk,a⟩ w':= ⟨hx.le.im,λ_ _ h=>h,λ_ r h=>⟨r,h, .inl rfl⟩⟩;refine⟨⟨d,hx.size,hx.os,hx.tape,hx.output,λb hb _ _=>j b hb,λb o hb _ _=>c b o hb,λb o h=>(e b o h).elim .inl (λh => .inr (.inl h)),λb h => .inl h,λk r h b o f => .inr ⟨r,h,f⟩⟩,
    ⟨X.lenB,X.lenT,λi b ob m q=>(X.ob i b ob m q).mono d (j b (n b (List.mem_of_getElem? m))),X.nodup,λb hb o h=> ?_,λk t r hk ht=>(X.tok k t r hk ht).mono d λb o f=>(c b o (hz k r hk b o f)).1,λk r hk b o f=> ?_,X.tkd,y,X.gl.le d⟩⟩
  · rcases e b o h with h|h
    · exact X.noim b hb o h
    · grind
  · obtain⟨m,q,h3,h4⟩:=X.tkz k r hk b o f;grind
end Go.Av
