/-
  Contracts and plain facts for a law, joined.
-/
import Derived.Test.YtmfmdehfbpkgdaaGreatDoorGEvC11
import Derived.Test.YtmfmdehfbpkgdaaGreatDoorGEvC5
import Derived.Test.YtmfmdehfbpkgdaaGreatDoorGEvC9
import Derived.Test.YtmfmdehfbpkgdaaGreatDoorGEvC4
import Derived.Test.YtmfmdehfbpkgdaaGreatDoorGEvC7
import Derived.Test.YtmfmdehfbpkgdaaGreatDoorGEvC2
import Derived.Test.YtmfmdehfbpkgdaaGreatDoorGEvC1
set_option maxRecDepth 100000
set_option maxHeartbeats 16000000
set_option linter.unusedVariables false
set_option linter.unusedSimpArgs false
set_option linter.unusedSectionVars false
namespace Go.Proofs.YtmfmdehfbpkgdaaGreatDoor
open Go Go.Av
attribute [local irreducible] HCode AOps PFn AFn Av.Step TStep
def PlCnt (pl : Pl) : Prop := ∀ typ row sels p m st, (pl typ row sels p m st).1.cnt + 2 * st.c ≤ 2 * (pl typ row sels p m st).2.c
theorem cnt_bad (m : Bool) (st st' : EvS) (h : st'.c = st.c + 1) : (badN m).cnt + 2 * st.c ≤ 2 * st'.c := by
  have : (badN m).cnt = 1 := by unfold badN; rw [Nd.cnt, Nd.cntL]; rfl
  omega
theorem cnt_leaf (m : Bool) (v : Val) (st st' : EvS) (h : st'.c = st.c + 1) : (leafN m v).cnt + 2 * st.c ≤ 2 * st'.c := by
  have : (leafN m v).cnt = 1 := by unfold leafN; rw [Nd.cnt, Nd.cntL]; rfl
  omega
mutual
theorem complM_cnt (s : Sch) (pl : Pl) (hpl : PlCnt pl) (tb : Str) (sels : List Sl) : ∀ (v : Val) (t : Typ) (p : Path) (st : EvS), (complM s pl tb sels v t p st).1.cnt + 2 * st.c ≤ 2 * (complM s pl tb sels v t p st).2.c
  | .mk k n str l m, t, p, st => by
    rw [complM]
    dsimp only
    split
    · split
      · exact cnt_bad _ _ _ rfl
      · exact cnt_leaf _ _ _ _ rfl
    split
    · split
      · exact cnt_bad _ _ _ rfl
      · have h := complL_cnt s pl hpl tb sels l (itemT t) p 0 st.tick
        have e : st.tick.c = st.c + 1 := rfl
        rw [Nd.cnt, List.length_nil]
        dsimp only
        omega
    split
    · split
      · exact cnt_bad _ _ _ rfl
      · exact cnt_leaf _ _ _ _ rfl
    split
    · exact cnt_bad _ _ _ rfl
    unfold gotM
    split
    · exact cnt_bad _ _ _ rfl
    split
    · split
      · exact cnt_bad _ _ _ rfl
      · exact cnt_leaf _ _ _ _ rfl
    split
    · exact cnt_bad _ _ _ rfl
    · have h := hpl (findG st.tick.L ⟨tb, str⟩).row.typ (findG st.tick.L ⟨tb, str⟩).row sels p (isT t) (st.tick.read ⟨tb, str⟩)
      have e : (st.tick.read ⟨tb, str⟩).c = st.c + 1 := rfl
      omega
theorem complL_cnt (s : Sch) (pl : Pl) (hpl : PlCnt pl) (tb : Str) (sels : List Sl) : ∀ (l : List Val) (t : Typ) (p : Path) (i : Nat) (st : EvS), Nd.cntL (complL s pl tb sels l t p i st).1 + 2 * st.c ≤ 2 * (complL s pl tb sels l t p i st).2.c
  | [], _, _, _, st => by rw [complL, Nd.cntL]; dsimp only; omega
  | v :: l, t, p, i, st => by
    rw [complL]
    dsimp only
    rw [Nd.cntL]
    have h1 := complM_cnt s pl hpl tb sels v t (p ++ [⟨[], i⟩]) st
    have h2 := complL_cnt s pl hpl tb sels l t p (i + 1) (complM s pl tb sels v t (p ++ [⟨[], i⟩]) st).2
    omega
end
theorem fieldM_cnt (s : Sch) (d : Dcm) (env : List Mem) (pl : Pl) (hpl : PlCnt pl) (dox : Bool) (typ : Str) (row : Row) (g : Grp) (p : Path) (st : EvS) : (fieldM s d env pl dox typ row g p st).1.cnt + 1 + 2 * st.c ≤ 2 * (fieldM s d env pl dox typ row g p st).2.c := by
  have b : ∀ (m : Bool) (st' : EvS), st'.c = st.c + 1 → (badN m).cnt + 1 + 2 * st.c ≤ 2 * st'.c := fun m st' h => by
    have : (badN m).cnt = 1 := by unfold badN; rw [Nd.cnt, Nd.cntL]; rfl
    omega
  have lf : ∀ (m : Bool) (v : Val) (st' : EvS), st'.c = st.c + 1 → (leafN m v).cnt + 1 + 2 * st.c ≤ 2 * st'.c := fun m v st' h => by
    have : (leafN m v).cnt = 1 := by unfold leafN; rw [Nd.cnt, Nd.cntL]; rfl
    omega
  have cm : ∀ tb sels v t p (st1 : EvS), st1.c = st.c + 1 → (complM s pl tb sels v t p st1).1.cnt + 1 + 2 * st.c ≤ 2 * (complM s pl tb sels v t p st1).2.c := fun tb sels v t p st1 h => by
    have := complM_cnt s pl hpl tb sels v t p st1
    omega
  unfold fieldM
  dsimp only
  split
  · exact lf _ _ _ rfl
  split
  · exact b _ _ rfl
  split
  · split
    · split
      · exact b _ _ rfl
      · exact cm _ _ _ _ _ _ rfl
    · exact b _ _ rfl
  · exact cm _ _ _ _ _ _ rfl
theorem foldN_cnt {α : Type} (fm : α → EvS → Nd × EvS) (hf : ∀ g st, (fm g st).1.cnt + 1 + 2 * st.c ≤ 2 * (fm g st).2.c) : ∀ (l : List α) (st : EvS), Nd.cntL (foldN fm l st).1 + l.length + 2 * st.c ≤ 2 * (foldN fm l st).2.c
  | [], st => by rw [foldN, Nd.cntL]; simp
  | g :: l, st => by
    have h1 := hf g st
    have h2 := foldN_cnt fm hf l (fm g st).2
    rw [foldN]
    dsimp only
    rw [Nd.cntL, List.length_cons]
    omega
theorem placeD_cnt (s : Sch) (d : Dcm) (env : List Mem) (pl : Pl) (hpl : PlCnt pl) (dox : Bool) (typ : Str) (row : Row) (sels : List Sl) (p : Path) (m : Bool) (st : EvS) (fm : Grp → EvS → Nd × EvS) (hfm : ∀ g st, fm g st = fieldM s d env pl dox typ row g (p ++ [⟨g.key, 0⟩]) st) :
    (Nd.mk 2 m val0 ((groupsM s d env typ sels).map Grp.key) (foldN fm (groupsM s d env typ sels) st.tick).1).cnt + 2 * st.c ≤ 2 * (foldN fm (groupsM s d env typ sels) st.tick).2.c := by
  have h := foldN_cnt fm (fun g st => by rw [hfm]; exact fieldM_cnt s d env pl hpl dox typ row g _ st) (groupsM s d env typ sels) st.tick
  have e : st.tick.c = st.c + 1 := rfl
  rw [Nd.cnt, List.length_map]
  omega
theorem placeM_cnt (s : Sch) (d : Dcm) (env : List Mem) : ∀ n : Nat, PlCnt (placeM s d env n false)
  | 0 => fun typ row sels p m st => by
    have e1 : (placeM s d env 0 false typ row sels p m st).1.cnt = 1 := by
      rw [placeM]; dsimp only; rw [Nd.cnt, Nd.cntL]; rfl
    have e2 : (placeM s d env 0 false typ row sels p m st).2.c = st.c + 1000000000 := rfl
    omega
  | n + 1 => fun typ row sels p m st => placeD_cnt s d env _ (placeM_cnt s d env n) false typ row sels p m st _ (fun _ _ => rfl)
def wkR (s : Sch) (d : Dcm) (env : List Mem) (F : List Fau) : List AV :=
  [.slice (s.defs.map Dfn.enc) .no, .str s.query, .str s.mutation, .slice (d.ops.map Opr.enc) .no, .slice (d.frags.map Frg.enc) .no, .slice (env.map Mem.enc) .no, .fn (.func 28) [] [.rptr (.ptr 2 0), .rptr (.ptr 1 0)], .fn (.func 31) [.ptr 2 0] [], .slice (F.map Fau.enc) (.own 2 2)]
def rnR (L : List Tbl) (n : Nat) : List AV := [Tbls.enc L, .vec 4 1 n 0 n]
def knR (ks : List Str) (xs : List AV) : AV := .agg [.int .i64 2, .bool false, .int .i64 0, .int .i64 0, .str [], .slice [] .nil, .slice [] .nil, .slice (ks.map AV.str) (.own 6 1), .slice [] .nil, .slice xs (.own 7 1)]
theorem wk_ren (s : Sch) (d : Dcm) (env : List Mem) (F : List Fau) {fb ft : Nat → Nat} (h0 : fb 0 = 2) (h1 : fb 1 = 1) (g0 : ft 0 = 2) : (Ob.cells (wkCs s d env rdV lyV F)).ren fb ft = .cells (wkR s d env F) := by
  have hF : AV.closedL (F.map Fau.enc) = true := closedL_map (fun f => by simp [Fau.enc, AV.closed, AV.closedL, Step.closedL]) F
  simp only [Ob.ren, wkCs, wkR, rdV, lyV, AV.renL, AV.ren, Tk.ren, h0, h1, g0, AV.renL_closed _ _ _ (Dfn.closedL _), AV.renL_closed _ _ _ (Opr.closedL _), AV.renL_closed _ _ _ (Frg.closedL _), AV.renL_closed _ _ _ (Mem.closedL _), AV.renL_closed _ _ _ hF]
theorem rn_ren (L : List Tbl) (n : Nat) {fb ft : Nat → Nat} (g1 : ft 1 = 4) : (Ob.cells (rnCs L n)).ren fb ft = .cells (rnR L n) := by
  simp only [Ob.ren, rnCs, rnR, AV.renL, AV.ren, g1, AV.ren_closed _ _ _ (Tbls.closed L)]
theorem Need.closedL' (l : List Need) : AV.closedL (l.map Need.enc) = true := closedL_map Need.closed l
theorem rd_ren {fb ft : Nat → Nat} (g2 : ft 2 = 5) : ∀ R : List (List Need), AV.renL fb ft (rdEnc R) = rdJ 5 R
  | [] => rfl
  | [r] => by simp only [rdEnc, rdJ, AV.renL, AV.ren, Tk.ren, g2, AV.renL_closed _ _ _ (Need.closedL' r)]
  | r :: q :: l => by
    rw [rdEnc, rdJ, AV.renL, rd_ren g2 (q :: l)]
    simp only [AV.ren, Tk.ren, AV.renL_closed _ _ _ (Need.closedL' r)]
theorem kn_ren {fb ft : Nat → Nat} (g4 : ft 4 = 6) (g5 : ft 5 = 7) (ks : List Str) (xs : List Nd) : AV.renL fb ft [knP false ks (xs.map fun y => .rptr y.kenc)] = [knR ks (xs.map fun y => .rptr y.kenc)] := by
  simp only [knP, knR, AV.renL, AV.ren, Tk.ren, g4, g5, AV.renL_closed _ _ _ (str_closedL ks), AV.renL_closed _ _ _ (Nd.kclosedL' xs)]
def runB (x0 x3 : Ob) (s : Sch) (d : Dcm) (env : List Mem) (st : EvS) : List Ob := [x0, .cells (rnR st.L st.R.length), .cells (wkR s d env st.F), x3]
def runT (st : EvS) (kn : AV) (a b : Nat) : List Tok := [.len 2, .len 2, .len st.F.length, .vec [kn], .vec (rdJ 5 st.R), .len (lastR st.R).length, .len a, .len b]
theorem sel_two {nB : Nat} (h : 3 ≤ nB) : Sel nB [2, 1] := ⟨by decide, fun i hi => by simp at hi; omega⟩
def seenE (v : Val) (F : List Fau) (R : List (List Need)) (L : List Tbl) : AV := .agg [.int .i64 v.kind, .int .i64 v.n, .str v.s, .slice v.lv .no, .slice v.mv .no, .slice (F.map Fau.enc) .no, .slice (rdNo R) .no, Tbls.enc L]
theorem run_hob (x0 x3 : Ob) (s : Sch) (d : Dcm) (env : List Mem) (st : EvS) {fb ft : Nat → Nat} (h0 : fb 0 = 2) (h1 : fb 1 = 1) (g0 : ft 0 = 2) (g1 : ft 1 = 4) :
    ∀ (k i : Nat) (ob : Ob), ([2, 1] : List Nat)[k]? = some i → (evB s d env st)[k]? = some ob → (runB x0 x3 s d env st)[i]? = some (ob.ren fb ft)
  | 0, i, ob, h, ho => by
    cases h; cases ho
    exact congrArg some (wk_ren s d env st.F h0 h1 g0).symm
  | 1, i, ob, h, ho => by
    cases h; cases ho
    exact congrArg some (rn_ren st.L st.R.length g1).symm
  | k + 2, i, ob, h, ho => by cases h
theorem run_htk3 (st : EvS) (kn : AV) (a b : Nat) (tl : List Tok) {fb ft : Nat → Nat} (g2 : ft 2 = 5) :
    ∀ (k i : Nat) (t : Tok), ([2, 4, 5] : List Nat)[k]? = some i → (evT st)[k]? = some t → (runT st kn a b ++ tl)[i]? = some (t.ren fb ft)
  | 0, i, t, h, ht => by cases h; cases ht; rfl
  | 1, i, t, h, ht => by
    cases h; cases ht
    exact congrArg (fun x => some (Tok.vec x)) (rd_ren g2 st.R).symm
  | 2, i, t, h, ht => by cases h; cases ht; rfl
  | k + 3, i, t, h, ht => by cases h
theorem run_htk (st : EvS) (ks : List Str) (xs : List Nd) (a b : Nat) (tl : List Tok) {fb ft : Nat → Nat} (g2 : ft 2 = 5) (g4 : ft 4 = 6) (g5 : ft 5 = 7) :
    ∀ (k i : Nat) (t : Tok), ([2, 4, 5, 3, 6, 7] : List Nat)[k]? = some i → (evT st ++ [.vec [knP false ks (xs.map fun y => .rptr y.kenc)], .len a, .len b])[k]? = some t → (runT st (knR ks (xs.map fun y => .rptr y.kenc)) a b ++ tl)[i]? = some (t.ren fb ft)
  | 0, i, t, h, ht => by cases h; cases ht; rfl
  | 1, i, t, h, ht => by
    cases h; cases ht
    exact congrArg (fun x => some (Tok.vec x)) (rd_ren g2 st.R).symm
  | 2, i, t, h, ht => by cases h; cases ht; rfl
  | 3, i, t, h, ht => by
    cases h; cases ht
    exact congrArg (fun x => some (Tok.vec x)) (kn_ren g4 g5 ks xs).symm
  | 4, i, t, h, ht => by cases h; cases ht; rfl
  | 5, i, t, h, ht => by cases h; cases ht; rfl
  | k + 6, i, t, h, ht => by cases h
theorem run_mB (x0 x3 : Ob) (s : Sch) (d : Dcm) (env : List Mem) (st st' : EvS) {fb ft : Nat → Nat} (h0 : fb 0 = 2) (h1 : fb 1 = 1) (g0 : ft 0 = 2) (g1 : ft 1 = 4) :
    merge (runB x0 x3 s d env st) [2, 1] ((evB s d env st').map (Ob.ren fb ft)) = runB x0 x3 s d env st' := by
  have e0 := wk_ren s d env st'.F h0 h1 g0
  have e1 := rn_ren (fb := fb) st'.L st'.R.length g1
  show [x0, (Ob.cells (rnCs st'.L st'.R.length)).ren fb ft, (Ob.cells (wkCs s d env rdV lyV st'.F)).ren fb ft, x3] = _
  rw [e0, e1]; rfl
theorem run_mT3 (st : EvS) (kn : AV) (a b : Nat) (tl : List Tok) {fb ft : Nat → Nat} (g2 : ft 2 = 5) : merge (runT st kn a b ++ tl) [2, 4, 5] ((evT st).map (Tok.ren fb ft)) = runT st kn a b ++ tl := by
  have e := rd_ren (fb := fb) g2 st.R
  show (Tok.len 2 :: .len 2 :: .len st.F.length :: .vec [kn] :: .vec (AV.renL fb ft (rdEnc st.R)) :: .len (lastR st.R).length :: .len a :: .len b :: tl) ++ [] = _
  rw [e, List.append_nil]; rfl
theorem run_mT (st st' : EvS) (kn : AV) (a b a' b' : Nat) (ks : List Str) (xs : List Nd) (tl : List Tok) {fb ft : Nat → Nat} (g2 : ft 2 = 5) (g4 : ft 4 = 6) (g5 : ft 5 = 7) :
    merge (runT st kn a b ++ tl) [2, 4, 5, 3, 6, 7] ((evT st' ++ [Tok.vec [knP false ks (xs.map fun y => .rptr y.kenc)], Tok.len a', Tok.len b']).map (Tok.ren fb ft)) = runT st' (knR ks (xs.map fun y => .rptr y.kenc)) a' b' ++ tl := by
  have e := rd_ren (fb := fb) g2 st'.R
  have e2 := kn_ren (fb := fb) g4 g5 ks xs
  show (Tok.len 2 :: .len 2 :: .len st'.F.length :: .vec (AV.renL fb ft [knP false ks (xs.map fun y => .rptr y.kenc)]) :: .vec (AV.renL fb ft (rdEnc st'.R)) :: .len (lastR st'.R).length :: .len a' :: .len b' :: tl) ++ [] = _
  rw [e, e2, List.append_nil]; rfl
def xS : Ob := .cells [.int .i64 0, .int .i64 0, .str [], .slice [] .nil, .slice [] .nil, .slice [] .nil, .slice [] .nil, .slice [] .nil]
def xP (typ : Str) (sels : List Sl) : Ob := .cells [.vptr 3 10 1 0 0, .str typ, .str [], .str [], .slice [] .nil, .bool false, .slice (sels.map Sl.enc) .no, .slice [] .nil]
def plZ (typ : Str) (sels : List Sl) : AV := .agg [.vptr 3 10 1 0 0, .str typ, .str [], .str [], .slice [] .nil, .bool false, .slice (sels.map Sl.enc) .no, .slice [] .nil]
theorem weak_plZ (typ : Str) (sels : List Sl) (at_ : AV) (h : Weak (.vptr 3 10 1 0 0) at_) : Weak (plZ typ sels) (plE at_ typ row0 sels []) :=
  Weak.agg (WeakL.cons h (WeakL.cons (Weak.refl _) (WeakL.cons (Weak.refl _) (WeakL.cons (Weak.refl _) (WeakL.cons (Weak.no (WeakL.refl _)) (WeakL.cons (Weak.refl _) (WeakL.cons (Weak.refl _) (WeakL.cons (Weak.no (WeakL.refl _)) (WeakL.refl _)))))))))
theorem pl_ren {fb ft : Nat → Nat} (h0 : fb 0 = 2) (at_ : AV) (ha : at_.ren fb ft = at_) (typ : Str) (sels : List Sl) : AV.renL fb ft [.ptr 0 0, plE at_ typ row0 sels []] = [.ptr 2 0, plE at_ typ row0 sels []] := by
  simp only [plE, AV.renL, AV.ren, Tk.ren, h0, ha, AV.renL_closed _ _ _ (Sl.closedL sels), row0, List.map_nil]
theorem pl_ren4 {fb ft : Nat → Nat} (h0 : fb 0 = 2) (at_ : AV) (ha : at_.ren fb ft = at_) (typ : Str) (sels : List Sl) (g : AV) (hg : g.closed = true) : AV.renL fb ft [.ptr 0 0, plE at_ typ row0 sels [], g, .nilfn] = [.ptr 2 0, plE at_ typ row0 sels [], g, .nilfn] := by
  simp only [plE, AV.renL, AV.ren, Tk.ren, h0, ha, AV.renL_closed _ _ _ (Sl.closedL sels), row0, List.map_nil, AV.ren_closed _ _ _ hg]
theorem seen_closed (v : Val) (F : List Fau) (R : List (List Need)) (L : List Tbl) : (seenE v F R L).closed = true := by
  have hF : AV.closedL (F.map Fau.enc) = true := closedL_map (fun f => by simp [Fau.enc, AV.closed, AV.closedL, Step.closedL]) F
  have hR : AV.closedL (rdNo R) = true := closedL_map (fun r => by simp [AV.closed, Need.closedL']) R
  simp [seenE, AV.closed, AV.closedL, Val.lv_closed, Val.mv_closed, hF, hR, Tbls.closed]
theorem rdJ_low (n m : Nat) (h : 5 < m) : ∀ R, AV.lowL n m (rdJ 5 R) = true
  | [] => rfl
  | [r] => by simp [rdJ, AV.lowL, AV.low, h]
  | r :: q :: l => by
    have := rdJ_low n m h (q :: l)
    rw [rdJ, AV.lowL, this]
    simp [AV.low]
theorem run_low (typ : Str) (sels : List Sl) (s : Sch) (d : Dcm) (env : List Mem) (st : EvS) (ks : List Str) (xs : List Nd) (a b : Nat) :
    (belowB 4 8 (runB xS (xP typ sels) s d env st) && belowT 4 8 (runT st (knR ks (xs.map fun y => .rptr y.kenc)) a b)) = true := by
  have h1 : AV.lowL 4 8 (xs.map fun y => .rptr y.kenc) = true := AV.lowL_of_closed _ _ _ (Nd.kclosedL' _)
  have h2 : AV.lowL 4 8 (ks.map AV.str) = true := AV.lowL_of_closed _ _ _ (str_closedL _)
  have h3 := rdJ_low 4 8 (by omega) st.R
  have h4 : AV.lowL 4 8 (st.F.map Fau.enc) = true := AV.lowL_of_closed _ _ _ (closedL_map (fun f => by simp [Fau.enc, AV.closed, AV.closedL, Step.closedL]) _)
  simp [runB, runT, xS, xP, rnR, wkR, knR, belowB, belowT, Ob.low, Tok.low, AV.lowL, AV.low, h1, h2, h3, h4, Tbls.enc, Tbl.lowL]
theorem eRunQ (s : Sch) (d : Dcm) (env : List Mem) (o : Opr) (l : List Tbl) (n : Nat) (hx : CtxOk s d env) (hoq : o.kind ≠ 1) (hlp : loopsB d = false) (hos : SelsOk o.sels 0) (hT : Tame l)
    (hc : (placeM s d env (n + 1) false (rootT s o) row0 o.sels [] false ⟨l, [], [[]], 0⟩).2.c ≤ 4096) (G : List Fau)
    (hsort : PFn Tryz.prog 39 [.slice ((placeM s d env (n + 1) false (rootT s o) row0 o.sels [] false ⟨l, [], [[]], 0⟩).2.F.map Fau.enc) .no] (.slice (G.map Fau.enc) .no)) :
    PFn Tryz.prog 18 [s.enc, d.enc, o.enc, .slice (env.map Mem.enc) .no, Tbls.enc l]
      (seenE (upM (placeM s d env (n + 1) false (rootT s o) row0 o.sels [] false ⟨l, [], [[]], 0⟩).1).1 G (placeM s d env (n + 1) false (rootT s o) row0 o.sels [] false ⟨l, [], [[]], 0⟩).2.R (placeM s d env (n + 1) false (rootT s o) row0 o.sels [] false ⟨l, [], [[]], 0⟩).2.L) := by
  have hplk := placeM_ok s d env n
  have hpl := placeOk s d env hx n
  have h0 : EvOk ⟨l, [], [[]], 0⟩ := ⟨Nat.le_refl _, by simp, Nat.zero_le _, (by show 1 ≤ 1048576; decide), hT⟩
  have hgr := eGroups s d env hx ⟨l, [], [[]], 0⟩ (rootT s o) row0 o.sels [] hos (Nat.zero_le _)
  have hgs := grp_sels s d env hx (rootT s o) hos
  have hcnt := placeD_cnt s d env _ (placeM_cnt s d env n) false (rootT s o) row0 o.sels [] false ⟨l, [], [[]], 0⟩ (fmG s d env n (rootT s o) row0 []) (fun _ _ => rfl)
  have hfc := foldN_c (fmG s d env n (rootT s o) row0 []) (fun g st h => fieldM_ok s d env _ hplk (rootT s o) row0 g _ st h) (fun g st h => fieldM_c s d env _ hplk (rootT s o) row0 g _ st h) (groupsM s d env (rootT s o) o.sels) (EvS.tick ⟨l, [], [[]], 0⟩) h0.tick.ok
  have hfm := foldN_mono (fmG s d env n (rootT s o) row0 []) (fun g st h => fieldM_ok s d env _ hplk (rootT s o) row0 g _ st h) (groupsM s d env (rootT s o) o.sels)
  have hft := foldN_take (fmG s d env n (rootT s o) row0 []) (groupsM s d env (rootT s o) o.sels)
  have hfo := fun l st h => foldN_ok (fmG s d env n (rootT s o) row0 []) (fun g st h => fieldM_ok s d env _ hplk (rootT s o) row0 g _ st h) l st h
  have hfl2 := fun l => foldN_len (fmG s d env n (rootT s o) row0 []) l
  have epl : placeM s d env (n + 1) false (rootT s o) row0 o.sels [] false ⟨l, [], [[]], 0⟩ = (.mk 2 false val0 ((groupsM s d env (rootT s o) o.sels).map Grp.key) (foldN (fmG s d env n (rootT s o) row0 []) (groupsM s d env (rootT s o) o.sels) (EvS.tick ⟨l, [], [[]], 0⟩)).1, (foldN (fmG s d env n (rootT s o) row0 []) (groupsM s d env (rootT s o) o.sels) (EvS.tick ⟨l, [], [[]], 0⟩)).2) := rfl
  rw [epl] at hc hsort ⊢
  dsimp only at hc hsort ⊢
  have ht1 := h0.tick.ok
  have hs1 : ∀ g ∈ groupsM s d env (rootT s o) o.sels, g.sels ≠ [] ∧ SelsOk g.sels (EvS.tick ⟨l, [], [[]], 0⟩).c := hgs
  have hfield := fun (g : Grp) (x : Sl) (rest : List Sl) (q : EvS) (ks : List Str) (xs : List Nd) (hgx : g.sels = x :: rest) => eFieldG s d env hx n hplk hpl (rootT s o) row0 ⟨by decide, fun m hm => by cases hm⟩ g x rest hgx o.sels [] q false ks xs
  have e0 : evB s d env ⟨l, [], [[]], 0⟩ = evB s d env (EvS.tick ⟨l, [], [[]], 0⟩) := rfl
  have e1 : evT ⟨l, [], [[]], 0⟩ = evT (EvS.tick ⟨l, [], [[]], 0⟩) := rfl
  rw [e0, e1] at hgr
  have htw := twinT l (by have := hT.fine.len; omega) (fun t ht => by have := hT.fine.rows t ht; omega) (fun t ht r hr => by have := hT.fine.cols t ht r hr; omega)
  have hrt := fRoot s o
  have hlo := gLoops d hx.hd
  rw [hlp] at hlo
  have n1 : (o.kind != 1) = true := by simpa using hoq
  have n2 : (o.kind == 1) = false := by simpa using hoq
  generalize groupsM s d env (rootT s o) o.sels = gs at *
  have hls : gs.length ≤ 4096 := by
    have e : (EvS.tick ⟨l, [], [[]], 0⟩).c = 1 := rfl
    omega
  have hb3 := evB_low s d env (EvS.tick ⟨l, [], [[]], 0⟩) 3 (by omega)
  have ht3 := evT_low 2 3 (by omega) (EvS.tick ⟨l, [], [[]], 0⟩)
  have hlg : AV.lowL 2 3 [.ptr 0 0, plE .undef (rootT s o) row0 o.sels []] = true := by simp [plE, AV.lowL, AV.low, row0]
  have hlg2 : AV.low 2 3 (.slice (gs.map Grp.enc) .no) = true := AV.low_of_closed _ _ _ (by simp [AV.closed, Grp.closedL])
  have hgc : (AV.slice (gs.map Grp.enc) .no).closed = true := by simp [AV.closed, Grp.closedL]
  refine AFn.plain (seen_closed _ _ _ _) (by simp [AV.closed, AV.closedL, Sch.closed, Dcm.closed, Opr.closed, Mem.closedL, Tbls.closed]) (AFn.eR [.cell 10 69] Tryz.func18 ?_)
  repeat' first | refine AOps.bx (v := .agg [Tbls.enc l, _]) ?_ | refine AOps.bx (v := .agg [_, _, _, _, _, _, _, _, _]) ?_ | refine .br ?_ | refine A.allocv (d := 11) rfl rfl rfl rfl rfl ?_ | refine HCode.turn 11 rfl (Turn.freezeP rfl rfl rfl rfl) ?_ | refine A.allocv (d := 12) rfl rfl rfl rfl rfl ?_ | refine HCode.turn 12 rfl (Turn.freezeP rfl rfl rfl rfl) ?_ | refine HCode.turnB 2 8 rfl rfl (Turn.adopt (k := 2) (z := 2) rfl rfl rfl) rfl ?_ | refine HCode.turn 10 rfl (Turn.elemS (k := 4) (i := 0) rfl rfl (Turn.adopt (k := 5) (z := 2) rfl rfl rfl) rfl rfl) ?_ | refine HCode.turn 10 rfl (Turn.inner (k := 3) (i := 0) (c := 7) rfl rfl rfl (Turn.adopt (k := 6) (z := 1) rfl rfl rfl) rfl rfl) ?_ | refine HCode.turn 10 rfl (Turn.inner (k := 3) (i := 0) (c := 9) rfl rfl rfl (Turn.adopt (k := 7) (z := 1) rfl rfl rfl) rfl rfl) ?_ | refine .s1 ?_ | (refine .q ?_ ?_ <;> intro hc) | refine A.nlP rfl ?_ | refine A.vstore (agg := false) rfl rfl rfl rfl rfl rfl rfl rfl rfl rfl rfl ?_ | refine A.callTk rfl (fun B => eRoot B _) (WeakL.refl _) ?_ | refine A.vappend_new (m := 1) rfl rfl rfl rfl rfl rfl rfl rfl rfl rfl (by dsimp only; omega) (by omega) rfl ?_ | fail
  refine A.callR (nB := 4) (nT := 8) (B0 := evB s d env (EvS.tick ⟨l, [], [[]], 0⟩)) (T0 := evT (EvS.tick ⟨l, [], [[]], 0⟩)) (B1 := evB s d env (EvS.tick ⟨l, [], [[]], 0⟩)) (T1 := evT (EvS.tick ⟨l, [], [[]], 0⟩)) (v := .slice (gs.map Grp.enc) .no)
    (B' := runB xS (xP (rootT s o) o.sels) s d env (EvS.tick ⟨l, [], [[]], 0⟩)) (T' := runT (EvS.tick ⟨l, [], [[]], 0⟩) (knR [] []) 0 0) [2, 1] [2, 4, 5] rfl hgr rfl rfl (sel_two (by omega)) ⟨by decide, by decide⟩ rfl rfl
    (run_hob xS (xP (rootT s o) o.sels) s d env (EvS.tick ⟨l, [], [[]], 0⟩) rfl rfl rfl rfl) (run_htk3 (EvS.tick ⟨l, [], [[]], 0⟩) (knR [] []) 0 0 [] rfl) hb3 ht3 hlg
    (by rw [pl_ren rfl .undef (by rw [AV.ren])]; exact WeakL.cons (Weak.refl _) (WeakL.cons (weak_plZ _ _ _ (weak_undef _)) (WeakL.refl _))) (AV.ren_closed _ _ _ hgc)
    (run_mB xS (xP (rootT s o) o.sels) s d env (EvS.tick ⟨l, [], [[]], 0⟩) (EvS.tick ⟨l, [], [[]], 0⟩) rfl rfl rfl rfl) (run_mT3 (EvS.tick ⟨l, [], [[]], 0⟩) (knR [] []) 0 0 [] rfl) ?_
  refine .go ?_
  refine HCode.forK gs.length (fun k => [(62, .int .i64 k), (61, .int .i64 gs.length), (60, .slice (gs.map Grp.enc) .no), (13, .ptr 3 0), (12, .rptr (.ptr 2 0)), (11, .rptr (.ptr 1 0)), (10, .ptr 0 0), (7, .rptr o.enc)])
    (fun k => ⟨runB xS (xP (rootT s o) o.sels) s d env (foldN (fmG s d env n (rootT s o) row0 []) (gs.take k) (EvS.tick ⟨l, [], [[]], 0⟩)).2, runT (foldN (fmG s d env n (rootT s o) row0 []) (gs.take k) (EvS.tick ⟨l, [], [[]], 0⟩)).2 (knR ((gs.take k).map Grp.key) ((foldN (fmG s d env n (rootT s o) row0 []) (gs.take k) (EvS.tick ⟨l, [], [[]], 0⟩)).1.map fun y => .rptr y.kenc)) k k⟩)
    (fun k => True) ⟨rfl, congrArg (AV.int .i64) (by simp), rfl, rfl, rfl, rfl, rfl, rfl, trivial⟩ rfl trivial fun k hk' _ => ?_
  by_cases h1 : k < gs.length
  · have d1 : decide ((k : Int) < (gs.length : Int)) = true := by simp [h1]
    have x1 : (gs.map Grp.enc)[k]? = some gs[k].enc := by simp [h1]
    have htk0 := hft k h1 (EvS.tick ⟨l, [], [[]], 0⟩)
    have hmo := hfm (k + 1) (EvS.tick ⟨l, [], [[]], 0⟩) ht1
    have hok := hfo (gs.take k) (EvS.tick ⟨l, [], [[]], 0⟩) ht1
    have hll := hfl2 (gs.take k) (EvS.tick ⟨l, [], [[]], 0⟩)
    have hkt : (gs.take k).length = k := by simp; omega
    have hok2 : Kept _ _ := fieldM_ok s d env (placeM s d env n false) hplk (rootT s o) row0 gs[k] ([] ++ [⟨gs[k].key, 0⟩]) (foldN (fmG s d env n (rootT s o) row0 []) (gs.take k) (EvS.tick ⟨l, [], [[]], 0⟩)).2 hok.ok
    obtain ⟨hne, hso⟩ := hs1 gs[k] (List.getElem_mem h1)
    obtain ⟨x, rest, hgx⟩ := List.exists_cons_of_ne_nil hne
    have hkm : (gs.take k).map Grp.key ++ [gs[k].key] = (gs.take (k + 1)).map Grp.key := by rw [List.take_succ_eq_append_getElem h1, List.map_append]; rfl
    rw [htk0] at hmo
    have hqc : (fmG s d env n (rootT s o) row0 [] gs[k] (foldN (fmG s d env n (rootT s o) row0 []) (gs.take k) (EvS.tick ⟨l, [], [[]], 0⟩)).2).2.c ≤ 4096 := Nat.le_trans hmo hc
    have hfd := hfield gs[k] x rest (foldN (fmG s d env n (rootT s o) row0 []) (gs.take k) (EvS.tick ⟨l, [], [[]], 0⟩)).2 ((gs.take k).map Grp.key) (foldN (fmG s d env n (rootT s o) row0 []) (gs.take k) (EvS.tick ⟨l, [], [[]], 0⟩)).1 hgx hok.ok (hso.mono hok.c) (Nat.zero_le _) (Nat.le_trans hok2.c hqc) (by rw [List.length_map]; omega) (by omega) hqc
    generalize foldN (fmG s d env n (rootT s o) row0 []) (gs.take k) (EvS.tick ⟨l, [], [[]], 0⟩) = q at *
    generalize fmG s d env n (rootT s o) row0 [] gs[k] q.2 = r at *
    rw [List.length_map, hkt, hll, hkt] at hfd
    have hkc : ∀ l : List Nd, AV.lowL 2 6 (l.map fun y => .rptr y.kenc) = true := fun l => AV.lowL_of_closed _ _ _ (Nd.kclosedL' _)
    have hkd : ∀ l : List Str, AV.lowL 2 6 (l.map AV.str) = true := fun l => AV.lowL_of_closed _ _ _ (str_closedL _)
    have hlw : ∀ (st : EvS) (ks : List Str) (xs : List Nd) (j : Nat), belowT 2 6 (evT st ++ [.vec [knP false ks (xs.map fun y => .rptr y.kenc)], .len j, .len j]) = true := fun st ks xs j => evT_lowP _ _ (by omega) _ _ (by simp only [belowT, Tok.low, AV.lowL, AV.low, knP, hkc, hkd]; rfl)
    have q1 := evB_low s d env q.2 6 (by omega)
    have q2 := hlw q.2 ((gs.take k).map Grp.key) q.1 k
    have hla : AV.lowL 2 6 [.ptr 0 0, plE (.vptr 3 10 1 0 0) (rootT s o) row0 o.sels [], gs[k].enc, .nilfn] = true := by
      have := AV.low_of_closed 2 6 _ (Grp.closed gs[k])
      simp [plE, AV.lowL, AV.low, this, row0]
    have hw : WeakL [.ptr 2 0, plZ (rootT s o) o.sels, gs[k].enc, .nilfn] (AV.renL (emb 4 [2, 1]) (emb 9 [2, 4, 5, 3, 6, 7]) [.ptr 0 0, plE (.vptr 3 10 1 0 0) (rootT s o) row0 o.sels [], gs[k].enc, .nilfn]) := by
      rw [pl_ren4 rfl (.vptr 3 10 1 0 0) (by rw [AV.ren]; rfl) _ _ _ (Grp.closed _)]
      exact WeakL.cons (Weak.refl _) (WeakL.cons (weak_plZ _ _ _ (Weak.refl _)) (WeakL.refl _))
    have hob := run_hob xS (xP (rootT s o) o.sels) s d env q.2 (fb := emb 4 [2, 1]) (ft := emb 9 [2, 4, 5, 3, 6, 7]) rfl rfl rfl rfl
    have htk := run_htk q.2 ((gs.take k).map Grp.key) q.1 k k [.len 2] (fb := emb 4 [2, 1]) (ft := emb 9 [2, 4, 5, 3, 6, 7]) rfl rfl rfl
    have hmB := run_mB xS (xP (rootT s o) o.sels) s d env q.2 r.2 (fb := emb 4 [2, 1]) (ft := emb 9 [2, 4, 5, 3, 6, 7]) rfl rfl rfl rfl
    have hmT := run_mT q.2 r.2 (knR ((gs.take k).map Grp.key) (q.1.map fun y => .rptr y.kenc)) k k (k + 1) (k + 1) ((gs.take k).map Grp.key ++ [gs[k].key]) (q.1 ++ [r.1]) [.len 2] (fb := emb 4 [2, 1]) (ft := emb 9 [2, 4, 5, 3, 6, 7]) rfl rfl rfl
    repeat' first | refine .br ?_ | refine A.allocv (d := 15) rfl rfl rfl rfl rfl ?_ | refine HCode.turn 15 rfl (Turn.freezeP rfl rfl rfl rfl) ?_ | refine .s1 ?_ | (refine .q ?_ ?_ <;> intro hc) | refine A.nlP rfl ?_ | refine A.vstore (agg := true) rfl rfl rfl rfl rfl rfl rfl rfl rfl rfl rfl ?_ | refine A.callR (nB := 4) (nT := 9) (v := .tup []) [2, 1] [2, 4, 5, 3, 6, 7] rfl hfd rfl rfl (sel_two (by omega)) ⟨by decide, by decide⟩ rfl rfl hob htk q1 q2 hla hw rfl hmB hmT ?_ | fail
    refine ⟨h1, ⟨rfl, rfl, rfl, rfl, rfl, rfl, rfl, rfl, trivial⟩, ?_, ?_, ?_, trivial⟩
    · have hgcl : AV.lowL 4 8 (gs.map Grp.enc) = true := AV.lowL_of_closed _ _ _ (Grp.closedL _)
      show belowS 4 8 _ = true
      simp [belowS, AV.low, hgcl]
    · exact run_low _ _ _ _ _ _ _ _ _ _
    · show (⟨runB xS (xP (rootT s o) o.sels) s d env r.2, runT r.2 (knR ((gs.take k).map Grp.key ++ [gs[k].key]) ((q.1 ++ [r.1]).map fun y => .rptr y.kenc)) (k + 1) (k + 1)⟩ : St) = _
      rw [htk0, hkm]
  · have d1 : decide ((k : Int) < (gs.length : Int)) = false := by simp; omega
    obtain rfl : k = gs.length := by omega
    rw [List.take_length]
    generalize foldN (fmG s d env n (rootT s o) row0 []) gs (EvS.tick ⟨l, [], [[]], 0⟩) = q at *
    have hnd : (Nd.mk 2 false val0 (gs.map Grp.key) q.1).cnt ≤ 68719476736 := by omega
    have hkn := kNode _ (Nd.mk 2 false val0 (gs.map Grp.key) q.1) hnd (Nat.le_refl _)
    have hup := tUp _ (Nd.mk 2 false val0 (gs.map Grp.key) q.1) hnd (Nat.le_refl _)
    have hwk : Weak (knR (gs.map Grp.key) (q.1.map fun y => .rptr y.kenc)) (Nd.mk 2 false val0 (gs.map Grp.key) q.1).kenc :=
      Weak.agg (WeakL.cons (Weak.refl _) (WeakL.cons (Weak.refl _) (WeakL.cons (Weak.refl _) (WeakL.cons (Weak.refl _) (WeakL.cons (Weak.refl _) (WeakL.cons (Weak.no (WeakL.eq (lv_mk _ _ _ _).symm)) (WeakL.cons (Weak.no (WeakL.eq (mv_mk _ _ _ _).symm)) (WeakL.cons (Weak.no (WeakL.refl _)) (WeakL.cons (Weak.refl _)
        (WeakL.cons (Weak.no (WeakL.eq (by rw [Nd.kl_eq]; rfl))) (WeakL.refl _)))))))))))
    have hle : (rdNo q.2.R).length = (rdJ 5 q.2.R).length := by rw [rdJ_len]; unfold rdNo; rw [List.length_map]
    have hln : (rdNo q.2.R).length = q.2.R.length := by unfold rdNo; rw [List.length_map]
    have hcan : AV.slice (((rdNo q.2.R).take q.2.R.length).drop 0) .no = .slice (rdNo q.2.R) .no := by rw [List.drop_zero, List.take_of_length_le (by omega)]
    have hrw := rdJ_weak 5 q.2.R
    have hws : WeakL [.slice (q.2.F.map Fau.enc) (.own 2 2)] [.slice (q.2.F.map Fau.enc) .no] := WeakL.cons (Weak.no (WeakL.refl _)) (WeakL.refl _)
    unfold runB runT xS xP rnR wkR
    generalize Nd.mk 2 false val0 (gs.map Grp.key) q.1 = nd at *
    generalize knR (gs.map Grp.key) (q.1.map fun y => .rptr y.kenc) = kn at *
    repeat' first | refine HCode.turnB 3 0 rfl rfl (Turn.trans (Turn.weakV (k := 3) rfl hwk rfl) (Turn.freezeP (k := 3) (n := 1) (j := 0) rfl rfl rfl rfl)) rfl ?_ | refine HCode.turnB 1 1 rfl rfl (Turn.trans (Turn.weakVs (k := 4) rfl hrw hle rfl) (Turn.trans (Turn.freeze (k := 4) (lo := 0) (hi := q.2.R.length) rfl hln rfl) (Turn.weak (Weak.eq hcan)))) rfl ?_ | refine A.call rfl hsort hws ?_ | refine .s1 ?_ | (refine .q ?_ ?_ <;> intro hc) | refine A.nlP rfl ?_ | fail
    exact FinR.r0
def sQry : Str := [81, 117, 101, 114, 121]
def sUsr : Str := [85, 115, 101, 114]
def sAge : Str := [97, 103, 101]
def dirW : Dirc := ⟨[103, 101, 116], [.mk [116, 97, 98, 108, 101] (textV [117]), .mk [97, 114, 103] (textV [105, 100])]⟩
def fldW : Fld := ⟨[117, 115, 101, 114], [⟨[105, 100], ⟨[73, 68], 0, 0⟩, false, val0⟩], ⟨sUsr, 0, 0⟩, [dirW]⟩
def fldA : Fld := ⟨sAge, [], ⟨[73, 110, 116], 0, 0⟩, []⟩
def schW : Sch := ⟨[⟨1, sQry, [], [fldW], [], []⟩, ⟨1, sUsr, [], [fldA], [], []⟩], sQry, []⟩
def rowW : Row := ⟨[97], sUsr, [.mk sAge (.mk 2 7 [] [] [])], false⟩
def tabW : List Tbl := [⟨[117], [rowW]⟩]
def selA : Sl := .mk 0 [] sAge [] [] [] []
def selW : Sl := .mk 0 [] [117, 115, 101, 114] [.mk [105, 100] (textV [97])] [] [] [selA]
def oprW : Opr := ⟨0, [], [], [], [selW]⟩
def docW : Dcm := ⟨[oprW], []⟩
theorem weak_memT {name str : Str} {t1 t2 : Tk} : Weak (.agg [.str name, .int .i64 4, .int .i64 0, .str str, .slice [] t1, .slice [] t2]) (Mem.mk name (textV str)).enc := by
  unfold Mem.enc textV
  show Weak _ (.agg [.str name, .int .i64 4, .int .i64 0, .str str, .slice (Val.mk 4 0 str [] []).lv .no, .slice (Val.mk 4 0 str [] []).mv .no])
  rw [lv_mk, mv_mk]
  exact Weak.agg (WeakL.cons (Weak.refl _) (WeakL.cons (Weak.refl _) (WeakL.cons (Weak.refl _) (WeakL.cons (Weak.refl _) (WeakL.cons (Weak.no (WeakL.refl _)) (WeakL.cons (Weak.no (WeakL.refl _)) (WeakL.refl _)))))))
theorem weak_memI {name : Str} {n : Int} {t1 t2 : Tk} : Weak (.agg [.str name, .int .i64 2, .int .i64 n, .str [], .slice [] t1, .slice [] t2]) (Mem.mk name (.mk 2 n [] [] [])).enc := by
  unfold Mem.enc
  show Weak _ (.agg [.str name, .int .i64 2, .int .i64 n, .str [], .slice (Val.mk 2 n [] [] []).lv .no, .slice (Val.mk 2 n [] [] []).mv .no])
  rw [lv_mk, mv_mk]
  exact Weak.agg (WeakL.cons (Weak.refl _) (WeakL.cons (Weak.refl _) (WeakL.cons (Weak.refl _) (WeakL.cons (Weak.refl _) (WeakL.cons (Weak.no (WeakL.refl _)) (WeakL.cons (Weak.no (WeakL.refl _)) (WeakL.refl _)))))))
theorem hWorld : PFn Tryz.prog 16 [] (.tup [schW.enc, Tbls.enc tabW]) := by
  refine AFn.plain (by simp [AV.closed, AV.closedL, Sch.closed, Tbls.closed]) rfl (AFn.eR [.cell 0 24, .tmp 1] Tryz.func16 ?_)
  repeat' first | refine .s1 ?_ | (refine .q ?_ ?_ <;> intro hc) | fail
  exact FinR.ret1 rfl (Weak.tup (WeakL.cons (Weak.agg (WeakL.cons (Weak.no (WeakL.cons (Weak.agg (WeakL.cons (Weak.refl _) (WeakL.cons (Weak.refl _) (WeakL.cons (Weak.no (WeakL.refl _)) (WeakL.cons (Weak.no (WeakL.cons (Weak.agg (WeakL.cons (Weak.refl _) (WeakL.cons (Weak.no (WeakL.cons (Weak.agg (WeakL.cons (Weak.refl _) (WeakL.cons (Weak.refl _) (WeakL.cons (Weak.refl _) (WeakL.cons (Weak.refl _) (WeakL.cons (Weak.refl _) (WeakL.cons (Weak.refl _) (WeakL.cons (Weak.refl _) (WeakL.cons (Weak.refl _) (WeakL.cons (Weak.no (WeakL.eq (lv_mk _ _ _ _).symm)) (WeakL.cons (Weak.no (WeakL.eq (mv_mk _ _ _ _).symm)) (WeakL.refl _)))))))))))) (WeakL.refl _))) (WeakL.cons (Weak.refl _) (WeakL.cons (Weak.refl _) (WeakL.cons (Weak.refl _) (WeakL.cons (Weak.no (WeakL.cons (Weak.agg (WeakL.cons (Weak.refl _) (WeakL.cons (Weak.no (WeakL.cons weak_memT (WeakL.cons weak_memT (WeakL.refl _)))) (WeakL.refl _)))) (WeakL.refl _))) (WeakL.refl _)))))))) (WeakL.refl _))) (WeakL.cons (Weak.no (WeakL.refl _)) (WeakL.cons (Weak.no (WeakL.refl _)) (WeakL.refl _)))))))) (WeakL.cons (Weak.agg (WeakL.cons (Weak.refl _) (WeakL.cons (Weak.refl _) (WeakL.cons (Weak.no (WeakL.refl _)) (WeakL.cons (Weak.no (WeakL.cons (Weak.agg (WeakL.cons (Weak.refl _) (WeakL.cons (Weak.no (WeakL.refl _)) (WeakL.cons (Weak.refl _) (WeakL.cons (Weak.refl _) (WeakL.cons (Weak.refl _) (WeakL.cons (Weak.no (WeakL.refl _)) (WeakL.refl _)))))))) (WeakL.refl _))) (WeakL.cons (Weak.no (WeakL.refl _)) (WeakL.cons (Weak.no (WeakL.refl _)) (WeakL.refl _)))))))) (WeakL.refl _)))) (WeakL.refl _))) (WeakL.cons (Weak.no (WeakL.cons (Weak.agg (WeakL.cons (Weak.refl _) (WeakL.cons (Weak.no (WeakL.cons (Weak.agg (WeakL.cons (Weak.refl _) (WeakL.cons (Weak.refl _) (WeakL.cons (Weak.no (WeakL.cons weak_memI (WeakL.refl _))) (WeakL.refl _))))) (WeakL.refl _))) (WeakL.refl _)))) (WeakL.refl _))) (WeakL.refl _))))
theorem hAsking : PFn Tryz.prog 17 [] docW.enc := by
  refine AFn.plain (Dcm.closed _) rfl (AFn.eR [.cell 0 64] Tryz.func17 ?_)
  repeat' first | refine .s1 ?_ | (refine .q ?_ ?_ <;> intro hc) | fail
  exact FinR.ret1 rfl (Weak.agg (WeakL.cons (Weak.no (WeakL.cons (Weak.agg (WeakL.cons (Weak.refl _) (WeakL.cons (Weak.refl _) (WeakL.cons (Weak.no (WeakL.refl _)) (WeakL.cons (Weak.no (WeakL.refl _)) (WeakL.cons (Weak.no (WeakL.cons (Weak.agg (WeakL.cons (Weak.refl _) (WeakL.cons (Weak.refl _) (WeakL.cons (Weak.refl _) (WeakL.cons (Weak.no (WeakL.cons weak_memT (WeakL.refl _))) (WeakL.cons (Weak.no (WeakL.refl _)) (WeakL.cons (Weak.refl _) (WeakL.cons (Weak.no (WeakL.cons (Weak.agg (WeakL.cons (Weak.refl _) (WeakL.cons (Weak.refl _) (WeakL.cons (Weak.refl _) (WeakL.cons (Weak.no (WeakL.refl _)) (WeakL.cons (Weak.no (WeakL.refl _)) (WeakL.cons (Weak.refl _) (WeakL.cons (Weak.no (WeakL.refl _)) (WeakL.refl _))))))))) (WeakL.refl _))) (WeakL.refl _))))))))) (WeakL.refl _))) (WeakL.refl _))))))) (WeakL.refl _))) (WeakL.cons (Weak.no (WeakL.refl _)) (WeakL.refl _))))
end Go.Proofs.YtmfmdehfbpkgdaaGreatDoor
namespace Go.Proofs.YtmfmdehfbpkgdaaGreatDoor
open Go Go.Av
def keyW : Str := [117, 115, 101, 114]
def sTabU : Str := [117]
def sRowA : Str := [97]
def valW : Val := .mk 7 0 [] [] [.mk keyW (.mk 7 0 [] [] [.mk sAge (.mk 2 7 [] [] [])])]
def ndA : Nd := .mk 2 false val0 [sAge] [leafN false (.mk 2 7 [] [] [])]
def ndW : Nd := .mk 2 false val0 [keyW] [ndA]
theorem grpW (s : Sch) (x : Sl) (h1 : holdsB [] x.dirs = true) (h2 : x.kind = 0) (typ : Str) : groupsM s docW [] typ [x] = [⟨keyS x, [x]⟩] := by
  unfold groupsM
  rw [thruM_cons, thruM_nil]
  unfold stepM
  rw [if_neg (by rw [h1]; decide), if_pos h2]
  rfl
theorem bndW : ofB schW sQry fldW = (⟨2, sTabU, [], [105, 100], []⟩, true) := by decide +kernel
theorem bndA : ofB schW sUsr fldA = (⟨0, [], sAge, [], []⟩, true) := by decide +kernel
theorem fldRW : fieldR schW sQry selW.name = (fldW, true) := rfl
theorem fldRA : fieldR schW sUsr selA.name = (fldA, true) := rfl
theorem argsWW : argsV schW fldW.params selW.args [] = (selW.args, 0) := by rfl
theorem argsWA : argsV schW fldA.params selA.args [] = ([], 0) := by rfl
theorem placeA (n : Nat) (p : Path) (R : List (List Need)) (c : Nat) : placeM schW docW [] (n + 1) false sUsr rowW [selA] p false ⟨tabW, [], R, c⟩ = (ndA, ⟨tabW, [], R, c + 3⟩) := by
  have e : placeM schW docW [] (n + 1) false sUsr rowW [selA] p false ⟨tabW, [], R, c⟩ = (.mk 2 false val0 ((groupsM schW docW [] sUsr [selA]).map Grp.key) (foldN (fun g st => fieldM schW docW [] (placeM schW docW [] n false) false sUsr rowW g (p ++ [⟨g.key, 0⟩]) st) (groupsM schW docW [] sUsr [selA]) (EvS.tick ⟨tabW, [], R, c⟩)).1,
    (foldN (fun g st => fieldM schW docW [] (placeM schW docW [] n false) false sUsr rowW g (p ++ [⟨g.key, 0⟩]) st) (groupsM schW docW [] sUsr [selA]) (EvS.tick ⟨tabW, [], R, c⟩)).2) := rfl
  rw [e, grpW schW selA rfl rfl]
  have hf : ∀ p st, fieldM schW docW [] (placeM schW docW [] n false) false sUsr rowW ⟨keyS selA, [selA]⟩ p st = (leafN false (.mk 2 7 [] [] []), st.tick.tick) := fun p st => by
    unfold fieldM
    dsimp only [List.headD]
    rw [if_neg (by decide), fldRA]
    dsimp only
    rw [argsWA]
    dsimp only
    rw [if_neg (by decide), bndA]
    rfl
  rw [foldN, foldN]
  dsimp only
  rw [hf]
  rfl
theorem runW (n : Nat) : placeM schW docW [] (n + 2) false sQry row0 [selW] [] false ⟨tabW, [], [[]], 0⟩ = (ndW, ⟨tabW, [], [[⟨sTabU, sRowA⟩]], 6⟩) := by
  have e : placeM schW docW [] (n + 2) false sQry row0 [selW] [] false ⟨tabW, [], [[]], 0⟩ = (.mk 2 false val0 ((groupsM schW docW [] sQry [selW]).map Grp.key) (foldN (fun g st => fieldM schW docW [] (placeM schW docW [] (n + 1) false) false sQry row0 g ([] ++ [⟨g.key, 0⟩]) st) (groupsM schW docW [] sQry [selW]) (EvS.tick ⟨tabW, [], [[]], 0⟩)).1,
    (foldN (fun g st => fieldM schW docW [] (placeM schW docW [] (n + 1) false) false sQry row0 g ([] ++ [⟨g.key, 0⟩]) st) (groupsM schW docW [] sQry [selW]) (EvS.tick ⟨tabW, [], [[]], 0⟩)).2) := rfl
  rw [e, grpW schW selW rfl rfl]
  have hf : ∀ p, fieldM schW docW [] (placeM schW docW [] (n + 1) false) false sQry row0 ⟨keyS selW, [selW]⟩ p (EvS.tick ⟨tabW, [], [[]], 0⟩) = (ndA, ⟨tabW, [], [[⟨sTabU, sRowA⟩]], 6⟩) := fun p => by
    unfold fieldM
    dsimp only [List.headD]
    rw [if_neg (by decide), fldRW]
    dsimp only
    rw [argsWW]
    dsimp only
    rw [if_neg (by decide), bndW]
    dsimp only
    rw [if_neg (by decide), if_pos rfl]
    have hg : (getG [105, 100] selW.args).1 = textV sRowA := rfl
    have hb : belowM' [selW] = [selA] := rfl
    rw [hg, hb]
    unfold textV
    rw [complM]
    dsimp only
    rw [if_neg (by decide), if_neg (by decide), if_neg (by decide), if_neg (by decide)]
    have hfd : findG (EvS.tick (EvS.tick (EvS.tick ⟨tabW, [], [[]], 0⟩))).L ⟨sTabU, sRowA⟩ = ⟨rowW, true, 0⟩ := rfl
    rw [hfd]
    unfold gotM
    dsimp only
    rw [if_neg (by decide), if_neg (by decide), if_neg (by decide)]
    exact placeA n p _ 3
  rw [foldN, foldN]
  dsimp only
  rw [hf]
  rfl
theorem upW : (upM ndW).1 = valW := by
  unfold ndW ndA leafN
  simp [upM, upP, valW]
theorem loopsW : loopsB docW = false := rfl
end Go.Proofs.YtmfmdehfbpkgdaaGreatDoor
namespace Go.Proofs.YtmfmdehfbpkgdaaGreatDoor
open Go Go.Av
attribute [local irreducible] HCode AOps PFn AFn Av.Step TStep
def fclE : AV := .fn (.func 80) [] []
theorem insE : PFn Tryz.prog 155 [.slice [] .no, .int .i64 0, .int .i64 0, fclE] (.tup []) := by
  refine AFn.plain rfl rfl (AFn.en [] Tryz.func155 ?_)
  refine .go ?_
  refine HCode.forK 0 (fun _ => [(8, .int .i64 1), (2, .int .i64 0)]) (fun _ => ⟨[], []⟩) (fun _ => True) ⟨rfl, rfl, trivial⟩ rfl trivial fun k hk _ => ?_
  have d1 : decide ((1 : Int) < 0) = false := rfl
  refine .go ?_
  exact ⟨_, rfl, Weak.refl _⟩
theorem stableE : PFn Tryz.prog 122 [.slice [] .no, .int .i64 0, fclE] (.tup []) := by
  have h := insE
  refine AFn.plain rfl rfl (AFn.en [] Tryz.func122 ?_)
  have d1 : decide ((20 : Int) ≤ 0) = false := rfl
  have d2 : decide ((20 : Int) < 0) = false := rfl
  refine .go ?_
  refine HCode.forK 0 (fun _ => [(8, .int .i64 20), (7, .int .i64 0), (6, .int .i64 20), (2, fclE), (1, .int .i64 0), (0, .slice [] .no)]) (fun _ => ⟨[], []⟩) (fun _ => True) ⟨rfl, rfl, rfl, rfl, rfl, rfl, trivial⟩ rfl trivial fun k hk _ => ?_
  refine .go ?_
  refine HCode.forK 0 (fun _ => [(6, .int .i64 20), (2, fclE), (1, .int .i64 0), (0, .slice [] .no)]) (fun _ => ⟨[], []⟩) (fun _ => True) ⟨rfl, rfl, rfl, rfl, trivial⟩ rfl trivial fun k hk _ => ?_
  refine .go ?_
  exact ⟨_, rfl, Weak.refl _⟩
theorem sortFE : PFn Tryz.prog 79 [.slice [] .no, fclE] (.tup []) := by
  have h := stableE
  refine AFn.plain rfl rfl (AFn.en [] Tryz.func79 ?_)
  refine .go ?_
  exact ⟨_, rfl, Weak.refl _⟩
theorem sortE : PFn Tryz.prog 39 [.slice [] .no] (.slice [] .no) := by
  have h := sortFE
  have hw : WeakL [.slice [] .nil, fclE] [.slice [] .no, fclE] := WeakL.cons (Weak.no (WeakL.refl _)) (WeakL.refl _)
  refine AFn.plain rfl rfl (AFn.en [2] Tryz.func39 ?_)
  have d1 : decide ((0 : Int) < 0) = false := rfl
  refine .go ?_
  refine HCode.forK 0 (fun _ => [(8, .int .i64 0), (7, .int .i64 0), (3, .slice [] .nil)]) (fun _ => ⟨[], []⟩) (fun _ => True) ⟨rfl, rfl, rfl, trivial⟩ rfl trivial fun k hk _ => ?_
  repeat' first | refine A.call rfl h hw ?_ | refine .s1 ?_ | (refine .q ?_ ?_ <;> intro hc) | fail
  exact Fin.ret1 rfl (Weak.no (WeakL.refl _))
end Go.Proofs.YtmfmdehfbpkgdaaGreatDoor
