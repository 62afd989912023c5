/-
  Contracts and plain facts for a law, joined.
-/
import Derived.Test.YtmfmdehfbpkgdaaGreatDoorGEvC9
import Derived.Test.YtmfmdehfbpkgdaaGreatDoorGEvC1
set_option maxRecDepth 100000
set_option maxHeartbeats 16000000
set_option linter.unusedVariables false
set_option linter.unusedSimpArgs false
set_option linter.unusedSectionVars false
namespace Go.Proofs.YtmfmdehfbpkgdaaGreatDoor
open Go Go.Av
attribute [local irreducible] HCode AOps PFn AFn Av.Step TStep
theorem complL_take (s : Sch) (pl : Pl) (tb : Str) (sels : List Sl) (t : Typ) (p : Path) : ∀ (l : List Val) (i k : Nat) (h : k < l.length) (st : EvS),
    complL s pl tb sels (l.take (k + 1)) t p i st = ((complL s pl tb sels (l.take k) t p i st).1 ++ [(complM s pl tb sels l[k] t (p ++ [⟨[], ((i + k : Nat) : Int)⟩]) (complL s pl tb sels (l.take k) t p i st).2).1], (complM s pl tb sels l[k] t (p ++ [⟨[], ((i + k : Nat) : Int)⟩]) (complL s pl tb sels (l.take k) t p i st).2).2)
  | [], i, k, h, st => by simp at h
  | v :: l, i, 0, h, st => by
    rw [List.take_succ_cons, List.take_zero, List.take_zero]
    simp only [complL, List.nil_append, List.getElem_cons_zero, Nat.add_zero]
  | v :: l, i, k + 1, h, st => by
    have ih := complL_take s pl tb sels t p l (i + 1) k (by simpa using h) (complM s pl tb sels v t (p ++ [⟨[], i⟩]) st).2
    rw [List.take_succ_cons, List.take_succ_cons, complL, complL]
    dsimp only
    rw [ih]
    simp only [List.getElem_cons_succ, List.cons_append, show i + 1 + k = i + (k + 1) by omega]
theorem complL_len (s : Sch) (pl : Pl) (tb : Str) (sels : List Sl) (t : Typ) (p : Path) : ∀ (l : List Val) (i : Nat) (st : EvS), (complL s pl tb sels l t p i st).1.length = l.length
  | [], _, _ => by rw [complL]; rfl
  | v :: l, i, st => by rw [complL, List.length_cons, complL_len s pl tb sels t p l]; rfl
theorem tick_c (s : Sch) (pl : Pl) (hpl : PlKeeps pl) (tb : Str) (sels : List Sl) (v : Val) (t : Typ) (p : Path) (st : EvS) (h : EvOk st) : st.c + 1 ≤ (complM s pl tb sels v t p st).2.c := by
  obtain ⟨k, n, str, l, m⟩ := v
  rw [complM]
  dsimp only
  split
  · split
    · exact Nat.le_refl _
    · exact Nat.le_refl _
  split
  · split
    · exact Nat.le_refl _
    · exact (complL_ok s pl hpl tb sels l (itemT t) p 0 st.tick h.tick.ok).c
  split
  · split
    · exact Nat.le_refl _
    · exact Nat.le_refl _
  split
  · exact Nat.le_refl _
  unfold gotM
  split
  · exact Nat.le_refl _
  split
  · split
    · exact Nat.le_refl _
    · exact Nat.le_refl _
  split
  · exact Nat.le_refl _
  · exact (hpl _ _ _ _ _ _ (h.tickRead _).ok).c
theorem complL_c (s : Sch) (pl : Pl) (hpl : PlKeeps pl) (tb : Str) (sels : List Sl) (t : Typ) (p : Path) : ∀ (l : List Val) (i : Nat) (st : EvS), EvOk st → st.c + l.length ≤ (complL s pl tb sels l t p i st).2.c
  | [], _, st, h => by rw [complL]; exact Nat.le_refl _
  | v :: l, i, st, h => by
    rw [complL]
    have h1 := tick_c s pl hpl tb sels v t (p ++ [⟨[], i⟩]) st h
    have h2 := complL_c s pl hpl tb sels t p l (i + 1) _ (complM_ok s pl hpl tb sels v t (p ++ [⟨[], i⟩]) st h).ok
    dsimp only
    rw [List.length_cons]
    omega
theorem complL_mono (s : Sch) (pl : Pl) (hpl : PlKeeps pl) (tb : Str) (sels : List Sl) (t : Typ) (p : Path) : ∀ (l : List Val) (i k : Nat) (st : EvS), EvOk st → (complL s pl tb sels (l.take k) t p i st).2.c ≤ (complL s pl tb sels l t p i st).2.c
  | [], i, k, st, h => by rw [List.take_nil]; exact Nat.le_refl _
  | v :: l, i, 0, st, h => by
    rw [List.take_zero]
    have := (complL_ok s pl hpl tb sels (v :: l) t p i st h).c
    simpa only [complL] using this
  | v :: l, i, k + 1, st, h => by
    rw [List.take_succ_cons, complL, complL]
    exact complL_mono s pl hpl tb sels t p l (i + 1) k _ (complM_ok s pl hpl tb sels v t (p ++ [⟨[], i⟩]) st h).ok
theorem evT_lowc (n m : Nat) (h : 2 < m) (st : EvS) (x : AV) (hx : x.closed = true) : belowT n m (evT st ++ [.vec [x]]) = true := by
  rw [belowT_app, evT_low _ _ h]
  simp [belowT, Tok.low, AV.lowL, AV.low_of_closed n m x hx]
theorem SelsOk.mono {l : List Sl} {c c' : Nat} (h : SelsOk l c) (hc : c ≤ c') : SelsOk l c' := ⟨Nat.le_trans h.sz (Nat.mul_le_mul_left _ (by omega)), h.all⟩
theorem hang_closed (tb key : Str) (t : Typ) (sels : List Sl) (p : Path) : (hangE .nilp tb key t sels p).closed = true := by simp [hangE, AV.closed, AV.closedL, Sl.closedL, Step.closedL]
theorem complArgs (t : Typ) (y : Val) (tb key : Str) (t0 : Typ) (sels : List Sl) (p : Path) : AV.closedL [t.enc, y.enc, hangE .nilp tb key t0 sels p] = true := by
  simp [AV.closedL, hang_closed, Val.closed]
  rfl
def CvOk (s : Sch) (v : Val) (t : Typ) : Prop := compB s t.name = true ∨ (v.size ≤ 68719476736 ∧ v.ok)
def ComplOk (s : Sch) (d : Dcm) (env : List Mem) (pl : Pl) (tb : Str) (sels : List Sl) (v : Val) : Prop := ∀ (t : Typ) (p : Path) (st : EvS) (m0 : Bool), t.name.length ≤ 1048640 → EvOk st → SelsOk sels st.c → p.length ≤ st.c → st.c ≤ 4096 → CvOk s v t → (complM s pl tb sels v t p st).2.c ≤ 4096 →
  EvC s d env 74 [.ptr 0 0, .vptr 3 10 1 0 0, t.enc, v.enc, hangE .nilp tb [] ⟨[], 0, 0⟩ sels p] st (knG 0 m0) (complM s pl tb sels v t p st)
theorem knK_map (l : List Nd) (x : Nd) : (l.map fun y => AV.rptr y.kenc) ++ [AV.rptr x.kenc] = (l ++ [x]).map fun y => AV.rptr y.kenc := by rw [List.map_append]; rfl
theorem eList (s : Sch) (d : Dcm) (env : List Mem) (hx : CtxOk s d env) (pl : Pl) (hpl : PlKeeps pl) (tb : Str) (sels : List Sl) (v : Val) (ih : ∀ k (h : k < v.l.length), ComplOk s d env pl tb sels v.l[k]) (t : Typ) (p : Path) (st : EvS) (m : Bool) (ht : t.name.length ≤ 1048640) (h : EvOk st) (hs : SelsOk sels st.c) (hp : p.length < st.c) (hc0 : st.c ≤ 4096)
    (hv : ∀ k (h : k < v.l.length), CvOk s v.l[k] t) (hk6 : v.kind = 6) (hc : (complL s pl tb sels v.l t p 0 st).2.c ≤ 4096) :
    EvC s d env 116 [.ptr 0 0, .vptr 3 10 1 0 0, t.enc, v.enc, hangE .nilp tb [] ⟨[], 0, 0⟩ sels p] st (knG 0 m) (.mk 1 m val0 [] (complL s pl tb sels v.l t p 0 st).1, (complL s pl tb sels v.l t p 0 st).2) := by
  have hlc := complL_c s pl hpl tb sels t p v.l 0 st h
  have hln := complL_len s pl tb sels t p v.l 0 st
  have hk : (v.kind != 6) = false := by rw [hk6]; rfl
  refine AFn.methK (nB := 2) (mT := 4) (AFn.en [] Tryz.func116 ?_) (Nat.le_refl _) (Nat.le_refl _) rfl (evB_low _ _ _ _ _ (by omega)) (evT_low4 _ _ (AV.low_of_closed _ _ _ (Nd.kclosed _)))
  repeat' first | refine .br ?_ | refine .s1 ?_ | (refine .q ?_ ?_ <;> intro hc) | refine A.vnil rfl ?_ | refine A.vstore (agg := true) rfl rfl rfl rfl rfl rfl rfl rfl rfl rfl rfl ?_ | fail
  refine HCode.turn 28 rfl (Turn.inner (k := 3) (i := 0) (c := 9) rfl rfl rfl (Turn.adopt (z := 1) rfl rfl rfl) rfl rfl) ?_
  refine HCode.forK v.l.length (fun k => [(28, .int .i64 k), (27, .int .i64 v.l.length), (26, .slice v.lv .no), (9, .rptr (hangE .nilp tb [] ⟨[], 0, 0⟩ sels p)), (7, .rptr t.enc), (1, .vptr 3 10 1 0 0), (0, .ptr 0 0)])
    (fun k => ⟨evB s d env (complL s pl tb sels (v.l.take k) t p 0 st).2, evT (complL s pl tb sels (v.l.take k) t p 0 st).2 ++ [.vec [.agg [.int .i64 1, .bool m, .int .i64 0, .int .i64 0, .str [], .slice [] .nil, .slice [] .nil, .slice [] .nil, .slice [] .nil, .slice ((complL s pl tb sels (v.l.take k) t p 0 st).1.map fun y => .rptr y.kenc) (.own 4 1)]], .len k]⟩)
    (fun k => True) ⟨rfl, congrArg (AV.int .i64) (by rw [Val.lv_len]), rfl, rfl, rfl, rfl, rfl, trivial⟩ rfl trivial fun k hk' _ => ?_
  by_cases h1 : k < v.l.length
  · have d1 : decide ((k : Int) < (v.l.length : Int)) = true := by simp [h1]
    have x1 := Val.lv_get h1
    have hkeep := complL_ok s pl hpl tb sels (v.l.take k) t p 0 st h
    have hkl := complL_len s pl tb sels t p (v.l.take k) 0 st
    have htk := complL_take s pl tb sels t p v.l 0 k h1 st
    have hmo := complL_mono s pl hpl tb sels t p v.l 0 (k + 1) st h
    rw [htk] at hmo
    rw [Nat.zero_add] at htk hmo
    have hkt : (v.l.take k).length = k := by simp; omega
    generalize complL s pl tb sels (v.l.take k) t p 0 st = q at *
    have hko := complM_ok s pl hpl tb sels v.l[k] t (p ++ [⟨[], (k : Int)⟩]) q.2 hkeep.ok
    have hcompl := ih k h1 t (p ++ [⟨[], (k : Int)⟩]) q.2 false ht hkeep.ok (hs.mono hkeep.c) (by rw [List.length_append]; have := hkeep.c; simp only [List.length_cons, List.length_nil]; omega) (by have := hko.c; dsimp only at hmo; omega) (hv k h1) (Nat.le_trans hmo hc)
    have hqc : q.2.c ≤ 4096 := by have := hko.c; dsimp only at hmo; omega
    have hpp := pAdd p ⟨[], (k : Int)⟩ (by omega)
    unfold EvC at hcompl
    generalize complM s pl tb sels v.l[k] t (p ++ [⟨[], (k : Int)⟩]) q.2 = r at *
    have hql : (q.1.map fun y => AV.rptr y.kenc).length = k := by rw [List.length_map, hkl, hkt]
    have hit : ∀ B, AFn Tryz.prog 108 [.vptr 3 10 1 0 0] ⟨B, evT q.2 ++ [.vec [.agg [.int .i64 1, .bool m, .int .i64 0, .int .i64 0, .str [], .slice [] .nil, .slice [] .nil, .slice [] .nil, .slice [] .nil, .slice (q.1.map fun y => .rptr y.kenc) (.own 4 1)]], .len k]⟩ (fun e σ' => e = .ret (.vptr 5 10 1 0 0) ∧ σ' = ⟨B, evT q.2 ++ [.vec [.agg [.int .i64 1, .bool m, .int .i64 0, .int .i64 0, .str [], .slice [] .nil, .slice [] .nil, .slice [] .nil, .slice [] .nil, .slice ((q.1.map fun y => .rptr y.kenc) ++ [.vptr 5 10 1 0 0]) (.own 4 1)]], .len (k + 1), .vec [kn0 false]]⟩) :=
      fun B => kItem (j := 3) (b := 4) (n := k) rfl rfl hql (by decide) (by omega)
    have q1 := evB_low s d env q.2 3 (by omega)
    have q2 := evT_lowc 2 3 (by omega) q.2 (knG 0 false) rfl
    have q3 := evB_low s d env q.2 4 (by omega)
    have q4 := evT_lowc 2 4 (by omega) q.2 (knG 0 false) rfl
    have q5 := evB_low s d env r.2 3 (by omega)
    have q6 := evT_lowc 2 3 (by omega) r.2 _ (Nd.kclosed r.1)
    have q7 : AV.lowL 2 3 [t.enc, v.l[k].enc, hangE .nilp tb [] ⟨[], 0, 0⟩ sels (p ++ [⟨[], (k : Int)⟩])] = true := AV.lowL_of_closed _ _ _ (complArgs _ _ _ _ _ _ _)
    have q8 : AV.lowL 2 4 (AV.ptr 0 0 :: AV.vptr 3 10 1 0 0 :: [t.enc, v.l[k].enc, hangE .nilp tb [] ⟨[], 0, 0⟩ sels (p ++ [⟨[], (k : Int)⟩])]) = true := by
      have := AV.lowL_of_closed 2 4 _ (complArgs t v.l[k] tb [] ⟨[], 0, 0⟩ sels (p ++ [⟨[], (k : Int)⟩]))
      rw [AV.lowL, AV.lowL, this]; rfl
    generalize v.l[k] = y at *
    repeat' first | refine HCode.turn 10 rfl (Turn.inner (k := 3) (i := 0) (c := 9) rfl rfl rfl (Turn.last (Turn.freezeP (k := 5) (n := 1) (j := 0) rfl rfl rfl rfl)) rfl rfl) ?_ | refine .s1 ?_ | (refine .q ?_ ?_ <;> intro hc) | refine A.callTk rfl hit (WeakL.refl _) ?_ | refine A.callPick (B0 := evB s d env q.2) (B1 := evB s d env r.2) (T0 := evT q.2) (T1 := evT r.2) (x0 := .vec [knG 0 false]) (x1 := .vec [r.1.kenc]) (M := [_, _]) (M2 := []) (pre := [.ptr 0 0]) (post := [_, _, _]) rfl hcompl rfl rfl rfl q1 q2 q3 q4 q5 q6 rfl q7 q8 rfl (WeakL.refl _) ?_ | fail
    refine ⟨h1, ⟨rfl, rfl, rfl, rfl, rfl, rfl, rfl, trivial⟩, ?_, ?_, ?_, trivial⟩
    · show belowS 2 5 _ = true
      have hvc : AV.lowL 2 5 v.lv = true := AV.lowL_of_closed _ _ _ v.lv_closed
      have hhc : AV.low 2 5 (hangE .nilp tb [] ⟨[], 0, 0⟩ sels p) = true := AV.low_of_closed _ _ _ (hang_closed _ _ _ _ _)
      simp only [belowS, AV.low, hvc, hhc]
      rfl
    · show (belowB 2 5 (evB s d env r.2) && belowT 2 5 (evT r.2 ++ [.vec [.agg [.int .i64 1, .bool m, .int .i64 0, .int .i64 0, .str [], .slice [] .nil, .slice [] .nil, .slice [] .nil, .slice [] .nil, .slice ((q.1.map fun y => .rptr y.kenc) ++ [.rptr r.1.kenc]) (.own 4 1)]], .len (k + 1)])) = true
      have hkc : AV.lowL 2 5 ((q.1.map fun y => .rptr y.kenc) ++ [.rptr r.1.kenc]) = true := AV.lowL_of_closed _ _ _ (by rw [knK_map]; exact Nd.kclosedL' _)
      rw [evB_low _ _ _ _ _ (by omega), belowT_app, evT_low _ _ (by omega)]
      simp only [belowT, Tok.low, AV.lowL, AV.low, hkc]
      rfl
    · show (⟨evB s d env r.2, evT r.2 ++ [.vec [.agg [.int .i64 1, .bool m, .int .i64 0, .int .i64 0, .str [], .slice [] .nil, .slice [] .nil, .slice [] .nil, .slice [] .nil, .slice ((q.1.map fun y => .rptr y.kenc) ++ [.rptr r.1.kenc]) (.own 4 1)]], .len (k + 1)]⟩ : St) = ⟨evB s d env (complL s pl tb sels (v.l.take (k + 1)) t p 0 st).2, evT (complL s pl tb sels (v.l.take (k + 1)) t p 0 st).2 ++ [.vec [.agg [.int .i64 1, .bool m, .int .i64 0, .int .i64 0, .str [], .slice [] .nil, .slice [] .nil, .slice [] .nil, .slice [] .nil, .slice ((complL s pl tb sels (v.l.take (k + 1)) t p 0 st).1.map fun y => .rptr y.kenc) (.own 4 1)]], .len (k + 1)]⟩
      rw [htk, knK_map]
  · have d1 : decide ((k : Int) < (v.l.length : Int)) = false := by simp; omega
    obtain rfl : k = v.l.length := by omega
    rw [List.take_length]
    generalize complL s pl tb sels v.l t p 0 st = q at *
    refine .go ?_
    refine ⟨_, _, rfl, Turn.weakV (k := 3) (y := (Nd.mk 1 m val0 [] q.1).kenc) rfl ?_ rfl, rfl, rfl⟩
    exact Weak.agg (WeakL.cons (Weak.refl _) (WeakL.cons (Weak.refl _) (WeakL.cons (Weak.refl _) (WeakL.cons (Weak.refl _) (WeakL.cons (Weak.refl _) (WeakL.cons (Weak.no (WeakL.eq (lv_mk _ _ _ _).symm)) (WeakL.cons (Weak.no (WeakL.eq (mv_mk _ _ _ _).symm)) (WeakL.cons (Weak.no (WeakL.refl _)) (WeakL.cons (Weak.refl _)
      (WeakL.cons (Weak.no (WeakL.eq (by rw [Nd.kl_eq]; rfl))) (WeakL.refl _)))))))))))
theorem complM_eq (s : Sch) (pl : Pl) (tb : Str) (sels : List Sl) (v : Val) (t : Typ) (p : Path) (st0 : EvS) : complM s pl tb sels v t p st0 =
    (if v.kind = 0 then (if isT t = true then (badN true, st0.tick.bad p 9) else (leafN false val0, st0.tick))
    else if (itemR t).2 = true then
      (if v.kind ≠ 6 then (badN (isT t), st0.tick.bad p 7)
      else (.mk 1 (isT t) val0 [] (complL s pl tb sels v.l (itemT t) p 0 st0.tick).1, (complL s pl tb sels v.l (itemT t) p 0 st0.tick).2))
    else if compB s t.name = false then
      (if (outR s t.name v).2 ≠ 0 then (badN (isT t), st0.tick.bad p (outR s t.name v).2) else (leafN (isT t) (outR s t.name v).1, st0.tick))
    else if v.kind ≠ 4 then (badN (isT t), st0.tick.bad p 7)
    else gotM s pl sels t p (findG st0.tick.L ⟨tb, v.s⟩) (st0.tick.read ⟨tb, v.s⟩)) := by
  obtain ⟨k, n, str, l, m⟩ := v
  rw [complM]
  rfl
theorem eListNo (s : Sch) (d : Dcm) (env : List Mem) (tb : Str) (sels : List Sl) (v : Val) (t : Typ) (p : Path) (st : EvS) (m : Bool) (hF : st.F.length ≤ 68719476736) (hk6 : v.kind ≠ 6) :
    EvC s d env 116 [.ptr 0 0, .vptr 3 10 1 0 0, t.enc, v.enc, hangE .nilp tb [] ⟨[], 0, 0⟩ sels p] st (knG 0 m) (badN m, st.bad p 7) := by
  have hk : (v.kind != 6) = true := by simpa using hk6
  refine AFn.methK (nB := 2) (mT := 4) (AFn.en [] Tryz.func116 ?_) (Nat.le_refl _) (Nat.le_refl _) rfl (evB_low _ _ _ _ _ (by omega)) (evT_low4 _ _ (AV.low_of_closed _ _ _ (Nd.kclosed _)))
  have hbad : ∀ (x : List Ob) (e : Int), _ := fun (x : List Ob) (e : Int) => eBad s d env rdV lyV (.cells (rnCs st.L st.R.length) :: x) (evT st ++ [.vec [knG 0 m]]) st.F 3 p e rfl rfl (by decide) hF
  unfold evB
  repeat' first | refine .br ?_ | refine .s1 ?_ | (refine .q ?_ ?_ <;> intro hc) | refine A.callA rfl (hbad _ _) (WeakL.refl _) ?_ | fail
  exact ⟨_, _, rfl, Turn.weakV (k := 3) rfl (weak_kn0 3 m _ _ _ _) rfl, rfl, evT_bad st p 7 (.vec [(badN m).kenc])⟩
theorem eComplStep (s : Sch) (d : Dcm) (env : List Mem) (hx : CtxOk s d env) (pl : Pl) (hplk : PlKeeps pl) (hpl : PlOk s d env pl) (tb : Str) (sels : List Sl) (v : Val) (ih : ∀ k (h : k < v.l.length), ComplOk s d env pl tb sels v.l[k]) : ComplOk s d env pl tb sels v := by
  intro t p st m0 ht h hs hp hc0 hv hc
  have htc := tick_c s pl hplk tb sels v t p st h
  have hF := h.F
  have hI := wIs t (by omega)
  have hIt := wItem t (by omega)
  have hsz := hx.hs
  have hC := dComposite s t.name (by omega)
  have e0 : evB s d env st = evB s d env st.tick := rfl
  have e1 : evT st = evT st.tick := rfl
  unfold EvC
  rw [e0, e1]
  refine AFn.methK (nB := 2) (mT := 4) (AFn.en [] Tryz.func74 ?_) (Nat.le_refl _) (Nat.le_refl _) rfl (evB_low _ _ _ _ _ (by omega)) (evT_low4 _ _ (AV.low_of_closed _ _ _ (Nd.kclosed _)))
  rw [complM_eq] at hc htc ⊢
  have h' := h.tick.ok
  have hr : (lastR st.tick.R).length < st.tick.c := Nat.lt_succ_of_le h.RL
  have hs' : SelsOk sels st.tick.c := hs.mono (Nat.le_succ _)
  have hp' : p.length < st.tick.c := Nat.lt_succ_of_le hp
  have hF' : st.tick.F.length ≤ 68719476736 := by show st.F.length ≤ _; omega
  have hc0' : st.tick.c ≤ 4096 := Nat.le_trans htc hc
  generalize st.tick = st at *
  have hbad : ∀ (x : List Ob) (e : Int), _ := fun (x : List Ob) (e : Int) => eBad s d env rdV lyV (.cells (rnCs st.L st.R.length) :: x) (evT st ++ [.vec [knG 0 (isT t)]]) st.F 3 p e rfl rfl (by decide) hF'
  by_cases c0 : v.kind = 0
  · have n0 : (v.kind == 0) = true := by rw [c0]; rfl
    rw [if_pos c0] at hc ⊢
    unfold evB
    by_cases c1 : isT t = true
    · rw [if_pos c1] at hc ⊢
      rw [c1] at hI
      have hnl : ∀ (x : List Ob), _ := fun (x : List Ob) => eNull s d env rdV lyV (.cells (rnCs st.L st.R.length) :: x) (evT st ++ [.vec [knG 0 true]]) st.F 3 p rfl rfl (by decide) hF'
      repeat' first | refine AOps.bx (v := .agg [_, _, _, _, _, _, _, _]) ?_ | refine .br ?_ | refine .s1 ?_ | (refine .q ?_ ?_ <;> intro hc) | refine A.nlP rfl ?_ | refine A.vnil rfl ?_ | refine A.vstore (agg := true) rfl rfl rfl rfl rfl rfl rfl rfl rfl rfl rfl ?_ | refine A.callA rfl (hnl _) (WeakL.refl _) ?_ | fail
      exact ⟨_, _, rfl, Turn.weakV (k := 3) rfl (weak_kn0 3 true _ _ _ _) rfl, rfl, evT_bad st p 9 (.vec [(badN true).kenc])⟩
    · rw [if_neg c1] at hc ⊢
      have c1' : isT t = false := by simpa using c1
      rw [c1'] at hI
      have hnl : ∀ (x : List Ob), _ := fun (x : List Ob) => eNull0 s d env rdV lyV (.cells (rnCs st.L st.R.length) :: x) (evT st ++ [.vec [knG 0 false]]) st.F 3 p rfl
      repeat' first | refine AOps.bx (v := .agg [_, _, _, _, _, _, _, _]) ?_ | refine .br ?_ | refine .s1 ?_ | (refine .q ?_ ?_ <;> intro hc) | refine A.nlP rfl ?_ | refine A.vnil rfl ?_ | refine A.vstore (agg := true) rfl rfl rfl rfl rfl rfl rfl rfl rfl rfl rfl ?_ | refine A.callA rfl (hnl _) (WeakL.refl _) ?_ | fail
      exact ⟨_, _, rfl, Turn.weakV (k := 3) rfl (weak_kn0 0 false _ _ _ _) rfl, rfl, rfl⟩
  have n0 : (v.kind == 0) = false := by simpa using c0
  rw [if_neg c0] at hc ⊢
  by_cases c2 : (itemR t).2 = true
  · rw [if_pos c2] at hc ⊢
    rw [c2] at hIt
    have hla : AV.lowL 2 4 (AV.ptr 0 0 :: AV.vptr 3 10 1 0 0 :: [(itemT t).enc, v.enc, hangE .nilp tb [] ⟨[], 0, 0⟩ sels p]) = true := by
      have := AV.lowL_of_closed 2 4 _ (complArgs (itemT t) v tb [] ⟨[], 0, 0⟩ sels p)
      rw [AV.lowL, AV.lowL, this]; rfl
    have q1 : belowB (evB s d env st).length (evT st ++ [Tok.vec [knG 0 (isT t)]]).length (evB s d env st) = true := evB_low s d env st 4 (by omega)
    have q2 : belowT (evB s d env st).length (evT st ++ [Tok.vec [knG 0 (isT t)]]).length (evT st ++ [Tok.vec [knG 0 (isT t)]]) = true := evT_low4 st (knG 0 (isT t)) rfl
    have hit : (itemR t).1 = itemT t := by
      unfold itemR at c2 ⊢
      split
      · rfl
      · rename_i hn; rw [if_neg hn] at c2; cases c2
    rw [hit] at hIt
    have q0 : ∀ r : Nd × EvS, (evT st ++ [Tok.vec [knG 0 (isT t)]]).length ≤ (evT r.2 ++ [Tok.vec [r.1.kenc]]).length := fun r => Nat.le_refl _
    have q3 : ∀ r : Nd × EvS, belowB (evB s d env r.2).length (evT r.2 ++ [Tok.vec [r.1.kenc]]).length (evB s d env r.2) = true := fun r => evB_low s d env r.2 4 (by omega)
    have q4 : ∀ r : Nd × EvS, belowT (evB s d env r.2).length (evT r.2 ++ [Tok.vec [r.1.kenc]]).length (evT r.2 ++ [Tok.vec [r.1.kenc]]) = true := fun r => evT_low4 r.2 _ (AV.low_of_closed _ _ _ (Nd.kclosed _))
    by_cases c6 : v.kind = 6
    · rw [if_neg (by simp [c6])] at hc ⊢
      have hvk : ∀ k (hk : k < v.l.length), CvOk s v.l[k] (itemT t) := fun k hk => hv.imp id fun hz => ⟨Nat.le_trans (Nat.le_of_lt (Val.size_l hk)) hz.1, Val.ok_l hz.2 (List.getElem_mem hk)⟩
      have hl := eList s d env hx pl hplk tb sels v ih (itemT t) p st (isT t) ht h' hs' hp' hc0' hvk c6 hc
      unfold EvC at hl
      generalize (Nd.mk 1 (isT t) val0 [] (complL s pl tb sels v.l (itemT t) p 0 st).1, (complL s pl tb sels v.l (itemT t) p 0 st).2) = r at *
      repeat' first | refine AOps.bx (v := .agg [_, _, _, _, _, _, _, _]) ?_ | refine .br ?_ | refine .s1 ?_ | (refine .q ?_ ?_ <;> intro hc) | refine A.vnil rfl ?_ | refine A.vstore (agg := true) rfl rfl rfl rfl rfl rfl rfl rfl rfl rfl rfl ?_ | refine A.callPreB (B0 := evB s d env st) (B1 := evB s d env r.2) rfl hl rfl rfl (q0 r) q1 q2 (q3 r) (q4 r) hla rfl (WeakL.refl _) ?_ | fail
      exact ⟨_, _, rfl, Turn.refl _ _, rfl, rfl⟩
    · rw [if_pos c6] at hc ⊢
      have hl := eListNo s d env tb sels v (itemT t) p st (isT t) hF' c6
      unfold EvC at hl
      generalize (badN (isT t), st.bad p 7) = r at *
      repeat' first | refine AOps.bx (v := .agg [_, _, _, _, _, _, _, _]) ?_ | refine .br ?_ | refine .s1 ?_ | (refine .q ?_ ?_ <;> intro hc) | refine A.vnil rfl ?_ | refine A.vstore (agg := true) rfl rfl rfl rfl rfl rfl rfl rfl rfl rfl rfl ?_ | refine A.callPreB (B0 := evB s d env st) (B1 := evB s d env r.2) rfl hl rfl rfl (q0 r) q1 q2 (q3 r) (q4 r) hla rfl (WeakL.refl _) ?_ | fail
      exact ⟨_, _, rfl, Turn.refl _ _, rfl, rfl⟩
  rw [if_neg c2] at hc ⊢
  have c2' : (itemR t).2 = false := by simpa using c2
  rw [c2'] at hIt
  have hir : (itemR t).1 = zeroT ∨ True := .inr trivial
  by_cases c3 : compB s t.name = false
  · rw [if_pos c3] at hc ⊢
    rw [c3] at hC
    obtain ⟨z1, z2⟩ := hv.resolve_left (by rw [c3]; decide)
    obtain ⟨z3, z4⟩ := Val.ok_n z2
    have hO := lOut s t.name v (by omega) z1 z3 z4
    by_cases c4 : (outR s t.name v).2 = 0
    · rw [if_neg (by simp [c4])] at hc ⊢
      have n4 : ((outR s t.name v).2 != 0) = false := by rw [c4]; rfl
      unfold evB
      generalize outR s t.name v = o at *
      repeat' first | refine AOps.bx (v := .agg [_, _, _, _, _, _, _, _]) ?_ | refine .br ?_ | refine A.allocv (d := 12) rfl rfl rfl rfl rfl ?_ | refine .s1 ?_ | (refine .q ?_ ?_ <;> intro hc) | refine A.nlP rfl ?_ | refine A.vnil rfl ?_ | refine A.vload rfl rfl rfl rfl rfl rfl ?_ | refine A.vstore (agg := true) rfl rfl rfl rfl rfl rfl rfl rfl rfl rfl rfl ?_ | fail
      exact ⟨_, _, rfl, Turn.weakV (k := 3) rfl (weak_kn 0 (isT t) o.1 _ _) rfl, rfl, rfl⟩
    · rw [if_pos c4] at hc ⊢
      have n4 : ((outR s t.name v).2 != 0) = true := by simpa using c4
      unfold evB
      generalize outR s t.name v = o at *
      have hbad2 : ∀ (x : List Ob) (e : Int), _ := fun (x : List Ob) (e : Int) => eBad s d env rdV lyV (.cells (rnCs st.L st.R.length) :: x) (evT st ++ [.vec [knG 0 (isT t)], .vec [o.1.enc]]) st.F 3 p e rfl rfl (by decide) hF'
      repeat' first | refine AOps.bx (v := .agg [_, _, _, _, _, _, _, _]) ?_ | refine .br ?_ | refine A.allocv (d := 12) rfl rfl rfl rfl rfl ?_ | refine .s1 ?_ | (refine .q ?_ ?_ <;> intro hc) | refine A.nlP rfl ?_ | refine A.vnil rfl ?_ | refine A.vload rfl rfl rfl rfl rfl rfl ?_ | refine A.vstore (agg := true) rfl rfl rfl rfl rfl rfl rfl rfl rfl rfl rfl ?_ | refine A.callA rfl (hbad2 _ _) (WeakL.refl _) ?_ | fail
      exact ⟨_, _, rfl, Turn.weakV (k := 3) rfl (weak_kn0 3 (isT t) _ _ _ _) rfl, rfl, evT_bad st p o.2 (.vec [(badN (isT t)).kenc])⟩
  have c3' : compB s t.name = true := by simpa using c3
  rw [if_neg c3] at hc ⊢
  rw [c3'] at hC
  by_cases c4 : v.kind = 4
  case neg =>
    rw [if_pos c4] at hc ⊢
    have n4 : (v.kind != 4) = true := by simpa using c4
    unfold evB
    repeat' first | refine AOps.bx (v := .agg [_, _, _, _, _, _, _, _]) ?_ | refine .br ?_ | refine .s1 ?_ | (refine .q ?_ ?_ <;> intro hc) | refine A.nlP rfl ?_ | refine A.vnil rfl ?_ | refine A.vstore (agg := true) rfl rfl rfl rfl rfl rfl rfl rfl rfl rfl rfl ?_ | refine A.callA rfl (hbad _ _) (WeakL.refl _) ?_ | fail
    exact ⟨_, _, rfl, Turn.weakV (k := 3) rfl (weak_kn0 3 (isT t) _ _ _ _) rfl, rfl, evT_bad st p 7 (.vec [(badN (isT t)).kenc])⟩
  have n4 : (v.kind != 4) = false := by rw [c4]; rfl
  rw [if_neg (by simp [c4])] at hc ⊢
  have hrd := eRd s d env hx pl hpl tb v.s t sels p st h' hr hs' (Nat.le_of_lt hp') hc0' hc
  unfold EvC at hrd
  generalize gotM s pl sels t p (findG st.L ⟨tb, v.s⟩) (st.read ⟨tb, v.s⟩) = r at *
  have q0 : (evT st ++ [Tok.vec [knG 0 (isT t)]]).length ≤ (evT r.2 ++ [Tok.vec [r.1.kenc]]).length := Nat.le_refl _
  have q1 : belowB (evB s d env st).length (evT st ++ [Tok.vec [knG 0 (isT t)]]).length (evB s d env st) = true := evB_low s d env st 4 (by omega)
  have q2 : belowT (evB s d env st).length (evT st ++ [Tok.vec [knG 0 (isT t)]]).length (evT st ++ [Tok.vec [knG 0 (isT t)]]) = true := evT_low4 st (knG 0 (isT t)) rfl
  have q3 : belowB (evB s d env r.2).length (evT r.2 ++ [Tok.vec [r.1.kenc]]).length (evB s d env r.2) = true := evB_low s d env r.2 4 (by omega)
  have q4 : belowT (evB s d env r.2).length (evT r.2 ++ [Tok.vec [r.1.kenc]]).length (evT r.2 ++ [Tok.vec [r.1.kenc]]) = true := evT_low4 r.2 _ (AV.low_of_closed _ _ _ (Nd.kclosed _))
  have hla : AV.lowL 2 4 [hangE (.vptr 3 10 1 0 0) tb v.s t sels p, .rptr (.ptr 0 0), .rptr (.ptr 1 0)] = true := by
    simp [hangE, AV.lowL, AV.low, AV.lowL_of_closed _ _ _ (Step.closedL p), AV.lowL_of_closed _ _ _ (Sl.closedL sels)]
  repeat' first | refine AOps.bx (v := .agg [_, _, _, _, _, _, _, _]) ?_ | refine .br ?_ | refine .s1 ?_ | (refine .q ?_ ?_ <;> intro hc) | refine A.nlP rfl ?_ | refine A.vnil rfl ?_ | refine A.vstore (agg := true) rfl rfl rfl rfl rfl rfl rfl rfl rfl rfl rfl ?_ | refine A.callvPreB (B0 := evB s d env st) (B1 := evB s d env r.2) rfl rfl hrd rfl rfl q0 q1 q2 q3 q4 hla rfl (WeakL.refl _) ?_ | fail
  exact ⟨_, _, rfl, Turn.refl _ _, rfl, rfl⟩
theorem eCompl (s : Sch) (d : Dcm) (env : List Mem) (hx : CtxOk s d env) (pl : Pl) (hplk : PlKeeps pl) (hpl : PlOk s d env pl) (tb : Str) (sels : List Sl) : ∀ (n : Nat) (v : Val), v.size ≤ n → ComplOk s d env pl tb sels v
  | 0, v, h => by have := v.size_pos; omega
  | n + 1, v, h => eComplStep s d env hx pl hplk hpl tb sels v fun k hk => eCompl s d env hx pl hplk hpl tb sels n v.l[k] (by have := Val.size_l hk; omega)
theorem kPart {B : List Ob} {t0 t1 t2 : Tok} {nk nx : Nat} {ks xs : List AV} {key : Str} {a0 a1 a2 a3 a4 a5 a6 a8 : AV} (hk : ks.length = nk) (hxl : xs.length = nx) (hkm : nk ≤ 1073741824) (hxm : nx ≤ 1073741824) :
    AFn Tryz.prog 66 [.vptr 3 10 1 0 0, .str key] ⟨B, [t0, t1, t2, .vec [.agg [a0, a1, a2, a3, a4, a5, a6, .slice ks (.own 4 1), a8, .slice xs (.own 5 1)]], .len nk, .len nx]⟩ (fun e σ' => e = .ret (.vptr 6 10 1 0 0) ∧
      σ' = ⟨B, [t0, t1, t2, .vec [.agg [a0, a1, a2, a3, a4, a5, a6, .slice (ks ++ [.str key]) (.own 4 1), a8, .slice (xs ++ [.vptr 6 10 1 0 0]) (.own 5 1)]], .len (nk + 1), .len (nx + 1), .vec [kn0 false]]⟩) := by
  have hi : AFn Tryz.prog 108 [.vptr 3 10 1 0 0] ⟨B, [t0, t1, t2, .vec [.agg [a0, a1, a2, a3, a4, a5, a6, .slice (ks ++ [.str key]) (.own 4 1), a8, .slice xs (.own 5 1)]], .len (nk + 1), .len nx]⟩ (fun e σ' => e = .ret (.vptr 6 10 1 0 0) ∧
      σ' = ⟨B, [t0, t1, t2, .vec [.agg [a0, a1, a2, a3, a4, a5, a6, .slice (ks ++ [.str key]) (.own 4 1), a8, .slice (xs ++ [.vptr 6 10 1 0 0]) (.own 5 1)]], .len (nk + 1), .len (nx + 1), .vec [kn0 false]]⟩) :=
    kItem (j := 3) (b := 5) (n := nx) rfl rfl hxl (by decide) (by omega)
  refine AFn.en [4] Tryz.func66 ?_
  repeat' first | refine A.vnil rfl ?_ | refine .s1 ?_ | (refine .q ?_ ?_ <;> intro hc) | refine A.vload rfl rfl rfl rfl rfl rfl ?_ | refine A.append (n := nk) rfl rfl rfl rfl rfl rfl rfl rfl hk rfl (by dsimp only [List.length_cons, List.length_nil]; omega) (by dsimp only [List.length_cons, List.length_nil]; omega) rfl ?_ | refine A.vstore (agg := true) rfl rfl rfl rfl rfl rfl rfl rfl rfl rfl rfl ?_ | refine A.callA rfl hi (WeakL.refl _) ?_ | fail
  exact ⟨rfl, rfl⟩
def knP (m : Bool) (ks : List Str) (xs : List AV) : AV := .agg [.int .i64 2, .bool m, .int .i64 0, .int .i64 0, .str [], .slice [] .nil, .slice [] .nil, .slice (ks.map AV.str) (.own 4 1), .slice [] .nil, .slice xs (.own 5 1)]
theorem evT_badL (st : EvS) (p : Path) (e : Int) (l : List Tok) : Tok.len (st.F.length + 1) :: .vec (rdEnc st.R) :: .len (lastR st.R).length :: l = evT (st.bad p e) ++ l := by
  unfold evT EvS.bad
  rw [List.length_append]; rfl
theorem below_sels {l : List Sl} {c : Nat} (h : SelsOk l c) : SelsOk (belowM' l) c := by
  have happ : ∀ a b : List Sl, sumSize Sl.size (a ++ b) = sumSize Sl.size a + sumSize Sl.size b := fun a b => by
    induction a with
    | nil => simp [sumSize]
    | cons x a ih => rw [List.cons_append, sumSize, sumSize, ih]; omega
  have hz : ∀ l : List Sl, sumSize Sl.size (belowM' l) ≤ sumSize Sl.size l := fun l => by
    induction l with
    | nil => exact Nat.le_refl _
    | cons x l ih =>
      have h2 := x.size_eq
      have h3 : belowM' (x :: l) = x.sels ++ belowM' l := by simp [belowM']
      rw [h3, happ, sumSize]; omega
  refine ⟨Nat.le_trans (hz l) h.sz, fun y hy => ?_⟩
  unfold belowM' at hy
  obtain ⟨x, hx, hy⟩ := List.mem_flatMap.1 hy
  have h2 := x.size_eq
  have h3 := sumSize_mem (size := Sl.size) hy
  exact ⟨(x.ok_eq.1 (h.all x hx).1).2.2.2 y hy, by have := (h.all x hx).2; omega⟩
theorem memsMk_len (s : Sch) (wr within : Bool) (env : List Mem) (dfl : Par → VE) (fs : List MF) : ∀ ps : List Par, (memsMk s wr within env dfl fs ps).1.length ≤ ps.length
  | [] => by rw [memsMk]; exact Nat.le_refl _
  | p :: ps => by
    have ih := memsMk_len s wr within env dfl fs ps
    rw [memsMk]
    dsimp only
    split
    · exact Nat.zero_le _
    split
    · exact Nat.zero_le _
    dsimp only
    rw [List.length_cons]
    split
    · rw [List.length_cons]; omega
    · omega
theorem val0_size' : val0.size = 6 := by simp [val0, Val.size, Val.sizeL, Val.sizeM]
theorem val0_ok' : val0.ok := by simp only [val0, Val.ok, Val.okL, Val.okM, and_true]; exact ⟨rfl, rfl⟩
theorem evT_lowP (n m : Nat) (h : 2 < m) (st : EvS) (l : List Tok) (hl : belowT n m l = true) : belowT n m (evT st ++ l) = true := by
  rw [belowT_app, evT_low _ _ h, hl]; rfl
theorem eFieldK (s : Sch) (d : Dcm) (env : List Mem) (hx : CtxOk s d env) (pl : Pl) (dox : Bool) (dv : AV) (typ : Str) (row : Row) (hrow : row.cols.length ≤ 1048576) (key : Str) (x : Sl) (rest : List Sl) (sels0 : List Sl) (p : Path) (st : EvS) (m : Bool) (ks : List Str) (xs : List Nd) (hF : st.F.length ≤ 4096) (hxx : x.ok ∧ x.size ≤ 1048576) (hbz : sumSize Sl.size (x :: rest) ≤ 68719476736) (hp : p.length ≤ 4096)
    (hkl : ks.length ≤ 1048576) (hxl : xs.length ≤ 1048576)
    (h3 : x.name ≠ sTypename → (argsV s (fieldR s typ x.name).1.params x.args env).2 = 0 → (ofB s typ (fieldR s typ x.name).1).1.how = 3 → dox = false ∧ dv = .nilfn)
    (hcmp : x.name ≠ sTypename → (argsV s (fieldR s typ x.name).1.params x.args env).2 = 0 → (ofB s typ (fieldR s typ x.name).1).1.how ≠ 3 →
      EvC s d env 74 [.ptr 0 0, .vptr 3 10 1 0 0, (fieldR s typ x.name).1.t.enc, (if (ofB s typ (fieldR s typ x.name).1).1.how = 2 then (getG (ofB s typ (fieldR s typ x.name).1).1.arg (argsV s (fieldR s typ x.name).1.params x.args env).1).1 else colG row (ofB s typ (fieldR s typ x.name).1).1.col).enc, hangE .nilp (ofB s typ (fieldR s typ x.name).1).1.table [] ⟨[], 0, 0⟩ (belowM' (x :: rest)) (p ++ [⟨key, 0⟩])] st (knG 0 (isT (fieldR s typ x.name).1.t))
        (complM s pl (ofB s typ (fieldR s typ x.name).1).1.table (belowM' (x :: rest)) (if (ofB s typ (fieldR s typ x.name).1).1.how = 2 then (getG (ofB s typ (fieldR s typ x.name).1).1.arg (argsV s (fieldR s typ x.name).1.params x.args env).1).1 else colG row (ofB s typ (fieldR s typ x.name).1).1.col) (fieldR s typ x.name).1.t (p ++ [⟨key, 0⟩]) st.tick)) :
    AFn Tryz.prog 35 [.ptr 0 0, plE (.vptr 3 10 1 0 0) typ row sels0 p, Grp.enc ⟨key, x :: rest⟩, dv] ⟨evB s d env st, evT st ++ [.vec [knP m ks (xs.map fun y => .rptr y.kenc)], .len ks.length, .len xs.length]⟩
      (fun e σ' => e = .ret (.tup []) ∧ σ' = ⟨evB s d env (fieldM s d env pl dox typ row ⟨key, x :: rest⟩ (p ++ [⟨key, 0⟩]) st).2, evT (fieldM s d env pl dox typ row ⟨key, x :: rest⟩ (p ++ [⟨key, 0⟩]) st).2 ++
        [.vec [knP m (ks ++ [key]) ((xs ++ [(fieldM s d env pl dox typ row ⟨key, x :: rest⟩ (p ++ [⟨key, 0⟩]) st).1]).map fun y => .rptr y.kenc)], .len (ks.length + 1), .len (xs.length + 1)]⟩) := by
  have hsz := hx.hs
  obtain ⟨f1, f2⟩ := fieldR_facts hx.so typ x.name
  have hfs : (fieldR s typ x.name).1.size = (fieldR s typ x.name).1.name.length + sumSize Par.size (fieldR s typ x.name).1.params + (fieldR s typ x.name).1.t.size + sumSize Dirc.size (fieldR s typ x.name).1.dirs + 4 := rfl
  have hfn : (fieldR s typ x.name).1.t.name.length ≤ (fieldR s typ x.name).1.t.size := by unfold Typ.size; omega
  have hkp : AFn Tryz.prog 66 [.vptr 3 10 1 0 0, .str key] ⟨evB s d env st, evT st ++ [.vec [knP m ks (xs.map fun y => .rptr y.kenc)], .len ks.length, .len xs.length]⟩ (fun e σ' => e = .ret (.vptr 6 10 1 0 0) ∧
      σ' = ⟨evB s d env st, evT st ++ [.vec [.agg [.int .i64 2, .bool m, .int .i64 0, .int .i64 0, .str [], .slice [] .nil, .slice [] .nil, .slice (ks.map AV.str ++ [.str key]) (.own 4 1), .slice [] .nil, .slice ((xs.map fun y => .rptr y.kenc) ++ [.vptr 6 10 1 0 0]) (.own 5 1)]], .len (ks.length + 1), .len (xs.length + 1), .vec [kn0 false]]⟩) :=
    kPart (List.length_map _) (List.length_map _) (by omega) (by omega)
  have hpa := pAdd p ⟨key, 0⟩ (by omega)
  have hargs := eArgs s d env hx st typ key x rest hxx.2 hxx.1
  have hI := wIs (fieldR s typ x.name).1.t (by omega)
  have hO := bOf s typ (fieldR s typ x.name).1 (by omega) (by omega)
  have hT := text typ
  have hbl := gBelow (x :: rest) (by omega)
  have x0 : (List.map Sl.enc (x :: rest))[0]? = some x.enc := rfl
  have b3 := evB_low s d env st 3 (by omega)
  have t3 := evT_low 2 3 (by omega) st
  have hrp : ∀ (a : Nd), ks.map AV.str ++ [AV.str key] = (ks ++ [key]).map AV.str := fun a => by rw [List.map_append]; rfl
  have hxp : ∀ (a : Nd), (xs.map fun y => AV.rptr y.kenc) ++ [AV.rptr a.kenc] = (xs ++ [a]).map fun y => AV.rptr y.kenc := fun a => knK_map xs a
  have key1 : ∀ r : Nd × EvS, AFn Tryz.prog 35 [.ptr 0 0, plE (.vptr 3 10 1 0 0) typ row sels0 p, Grp.enc ⟨key, x :: rest⟩, dv] ⟨evB s d env st, evT st ++ [.vec [knP m ks (xs.map fun y => .rptr y.kenc)], .len ks.length, .len xs.length]⟩
      (fun e σ1 => ∃ v σ2, e = .ret v ∧ Turn σ1 v σ2 (.tup []) ∧ σ2.B.take 2 = evB s d env r.2 ∧ σ2.T.take 6 = evT r.2 ++ [.vec [knP m (ks ++ [key]) ((xs ++ [r.1]).map fun y => .rptr y.kenc)], .len (ks.length + 1), .len (xs.length + 1)]) → 
      AFn Tryz.prog 35 [.ptr 0 0, plE (.vptr 3 10 1 0 0) typ row sels0 p, Grp.enc ⟨key, x :: rest⟩, dv] ⟨evB s d env st, evT st ++ [.vec [knP m ks (xs.map fun y => .rptr y.kenc)], .len ks.length, .len xs.length]⟩
      (fun e σ' => e = .ret (.tup []) ∧ σ' = ⟨evB s d env r.2, evT r.2 ++ [.vec [knP m (ks ++ [key]) ((xs ++ [r.1]).map fun y => .rptr y.kenc)], .len (ks.length + 1), .len (xs.length + 1)]⟩) := fun r hr => by
    have hkc : AV.lowL 2 6 ((xs ++ [r.1]).map fun y => .rptr y.kenc) = true := AV.lowL_of_closed _ _ _ (Nd.kclosedL' _)
    have hkd : AV.lowL 2 6 ((ks ++ [key]).map AV.str) = true := AV.lowL_of_closed _ _ _ (str_closedL _)
    refine AFn.methK (nB := 2) (mT := 6) hr (Nat.le_refl _) (Nat.le_refl _) rfl (evB_low _ _ _ _ _ (by omega)) (evT_lowP _ _ (by omega) _ _ ?_)
    simp only [belowT, Tok.low, AV.lowL, AV.low, knP, hkc, hkd]
    rfl
  refine key1 _ (AFn.en [] Tryz.func35 ?_)
  have hgl : AV.lowL 2 3 [.ptr 0 0, .str typ, Grp.enc ⟨key, x :: rest⟩] = true := by
    have := AV.low_of_closed 2 3 _ (Grp.closed ⟨key, x :: rest⟩)
    rw [AV.lowL, AV.lowL, AV.lowL, this]; rfl
  unfold fieldM
  dsimp only [List.headD]
  by_cases c1 : x.name = sTypename
  · have e1 : (x.name == sTypename) = true := by simp [c1]
    unfold sTypename at e1
    rw [if_pos c1, if_pos c1] at hargs
    rw [if_pos c1]
    generalize fieldR s typ x.name = fr at *
    have hrl : (AV.tup [fr.1.enc, .slice (([] : List Mem).map Mem.enc) .no, .int .i64 0]).low 2 3 = true := AV.low_of_closed _ _ _ (by simp [AV.closed, AV.closedL, Fld.closed])
    repeat' first | refine .br ?_ | refine .s1 ?_ | (refine .q ?_ ?_ <;> intro hc) | refine A.callA rfl hkp (WeakL.refl _) ?_ | refine A.vnil rfl ?_ | refine A.callPre (B0 := evB s d env st) (B1 := evB s d env st) (T0 := evT st) (T1 := evT st) (B := []) (T := [_, _, _, _]) rfl hargs rfl (.inl rfl) (.inr rfl) (Nat.le_refl _) (Nat.le_refl _) b3 t3 b3 t3 hgl hrl (WeakL.refl _) ?_ | refine A.vstore (agg := true) rfl rfl rfl rfl rfl rfl rfl rfl rfl rfl rfl ?_ | fail
    refine ⟨_, _, rfl, Turn.trans (Turn.weakV (k := 6) rfl (weak_kn 0 (isT fr.1.t) (textV typ) _ _) rfl) (Turn.inner (k := 3) (i := 0) (c := 9) rfl rfl rfl (Turn.last (Turn.freezeP (k := 6) (n := 1) (j := 0) rfl rfl rfl rfl)) rfl rfl), rfl, ?_⟩
    simp only [knP, List.map_append, List.map_cons, List.map_nil]
    rfl
  have e1 : (x.name == sTypename) = false := by simp [c1]
  unfold sTypename at e1
  rw [if_neg c1, if_neg c1] at hargs
  rw [if_neg c1]
  have hrl : (AV.tup [(fieldR s typ x.name).1.enc, .slice ((argsV s (fieldR s typ x.name).1.params x.args env).1.map Mem.enc) .no, .int .i64 (argsV s (fieldR s typ x.name).1.params x.args env).2]).low 2 3 = true := AV.low_of_closed _ _ _ (by simp [AV.closed, AV.closedL, Fld.closed, Mem.closedL])
  have hal : (argsV s (fieldR s typ x.name).1.params x.args env).1.length ≤ 9223372036854775807 := by
    have h1 := memsMk_len s true false env (dflAll s) (mkM s true env (dflLeaf s) x.args) (fieldR s typ x.name).1.params
    have h2 := sumSize_length (size := Par.size) Par.size_pos (fieldR s typ x.name).1.params
    unfold argsV
    omega
  generalize argsV s (fieldR s typ x.name).1.params x.args env = a at *
  generalize fieldR s typ x.name = fr at *
  by_cases c2 : a.2 = 0
  case neg =>
    have n2 : (a.2 != 0) = true := by simpa using c2
    rw [if_pos c2]
    have hbad : ∀ (x : List Ob) (e : Int), _ := fun (x : List Ob) (e : Int) => eBad s d env rdV lyV (.cells (rnCs st.L st.R.length) :: x) (evT st ++ [.vec [.agg [.int .i64 2, .bool m, .int .i64 0, .int .i64 0, .str [], .slice [] .nil, .slice [] .nil, .slice (ks.map AV.str ++ [.str key]) (.own 4 1), .slice [] .nil, .slice ((xs.map fun y => .rptr y.kenc) ++ [.vptr 6 10 1 0 0]) (.own 5 1)]], .len (ks.length + 1), .len (xs.length + 1), .vec [knG 0 (isT fr.1.t)], .len 2]) st.F 6 (p ++ [⟨key, 0⟩]) e rfl rfl (by decide) (by omega)
    repeat' first | refine .br ?_ | refine A.allocv (d := 13) rfl rfl rfl rfl rfl ?_ | refine HCode.turn 13 rfl (Turn.freezeP rfl rfl rfl rfl) ?_ | refine .s1 ?_ | (refine .q ?_ ?_ <;> intro hc) | refine A.callA rfl hkp (WeakL.refl _) ?_ | refine A.nlP rfl ?_ | refine A.vnil rfl ?_ | refine A.callPre (B0 := evB s d env st) (B1 := evB s d env st) (T0 := evT st) (T1 := evT st) (B := []) (T := [_, _, _, _]) rfl hargs rfl (.inl rfl) (.inr rfl) (Nat.le_refl _) (Nat.le_refl _) b3 t3 b3 t3 hgl hrl (WeakL.refl _) ?_ | refine A.callA rfl (hbad _ _) (WeakL.refl _) ?_ | refine A.vstore (agg := true) rfl rfl rfl rfl rfl rfl rfl rfl rfl rfl rfl ?_ | fail
    refine ⟨_, _, rfl, Turn.trans (Turn.weakV (k := 6) rfl (weak_kn0 3 (isT fr.1.t) _ _ _ _) rfl) (Turn.inner (k := 3) (i := 0) (c := 9) rfl rfl rfl (Turn.last (Turn.freezeP (k := 6) (n := 1) (j := 0) rfl rfl rfl rfl)) rfl rfl), rfl, ?_⟩
    simp only [knP, List.map_append, List.map_cons, List.map_nil]
    exact evT_badL st.tick (p ++ [⟨key, 0⟩]) a.2 _
  have n2 : (a.2 != 0) = false := by rw [c2]; rfl
  rw [if_neg (by simp [c2])]
  have hbo : (ofB s typ fr.1).2 = false → (ofB s typ fr.1).1 = bnd0 := fun hb => by
    unfold ofB at hb ⊢
    split at hb
    · cases hb
    · rename_i hn; rw [if_neg hn]
  generalize ofB s typ fr.1 = bb at *
  obtain ⟨b, bk⟩ := bb
  dsimp only at hO hbo hcmp h3 ⊢
  by_cases c3 : b.how = 3
  · have n3 : (b.how == 2) = false := by rw [c3]; rfl
    have n4 : (b.how != 3) = false := by rw [c3]; rfl
    have n5 : ((14 : Int) != 0) = true := rfl
    obtain ⟨hdx, hdv⟩ := h3 c1 c2 c3
    subst hdx
    subst hdv
    rw [if_pos c3, if_neg (by decide)]
    have hbad : ∀ (x : List Ob) (e : Int), _ := fun (x : List Ob) (e : Int) => eBad s d env rdV lyV (.cells (rnCs st.L st.R.length) :: x) (evT st ++ [.vec [.agg [.int .i64 2, .bool m, .int .i64 0, .int .i64 0, .str [], .slice [] .nil, .slice [] .nil, .slice (ks.map AV.str ++ [.str key]) (.own 4 1), .slice [] .nil, .slice ((xs.map fun y => .rptr y.kenc) ++ [.vptr 6 10 1 0 0]) (.own 5 1)]], .len (ks.length + 1), .len (xs.length + 1), .vec [knG 0 (isT fr.1.t)], .len 2]) st.F 6 (p ++ [⟨key, 0⟩]) e rfl rfl (by decide) (by omega)
    repeat' first | refine .br ?_ | refine A.allocv (d := 13) rfl rfl rfl rfl rfl ?_ | refine HCode.turn 13 rfl (Turn.freezeP rfl rfl rfl rfl) ?_ | refine .s1 ?_ | (refine .q ?_ ?_ <;> intro hc) | refine A.callA rfl hkp (WeakL.refl _) ?_ | refine A.eqfn rfl rfl rfl rfl ?_ | refine A.nlP rfl ?_ | refine A.vnil rfl ?_ | refine A.callPre (B0 := evB s d env st) (B1 := evB s d env st) (T0 := evT st) (T1 := evT st) (B := []) (T := [_, _, _, _]) rfl hargs rfl (.inl rfl) (.inr rfl) (Nat.le_refl _) (Nat.le_refl _) b3 t3 b3 t3 hgl hrl (WeakL.refl _) ?_ | refine A.callA rfl (hbad _ _) (WeakL.refl _) ?_ | refine A.vstore (agg := true) rfl rfl rfl rfl rfl rfl rfl rfl rfl rfl rfl ?_ | fail
    refine ⟨_, _, rfl, Turn.trans (Turn.weakV (k := 6) rfl (weak_kn0 3 (isT fr.1.t) _ _ _ _) rfl) (Turn.inner (k := 3) (i := 0) (c := 9) rfl rfl rfl (Turn.last (Turn.freezeP (k := 6) (n := 1) (j := 0) rfl rfl rfl rfl)) rfl rfl), rfl, ?_⟩
    simp only [knP, List.map_append, List.map_cons, List.map_nil]
    exact evT_badL st.tick (p ++ [⟨key, 0⟩]) 14 _
  rw [if_neg c3]
  have n4 : (b.how != 3) = true := by simpa using c3
  have hcmp := hcmp c1 c2 c3
  unfold EvC at hcmp
  have hcm : AFn Tryz.prog 74 [.ptr 0 0, .vptr 3 10 1 0 0, fr.1.t.enc, (if b.how = 2 then (getG b.arg a.1).1 else colG row b.col).enc, hangE .nilp b.table [] ⟨[], 0, 0⟩ (belowM' (x :: rest)) (p ++ [⟨key, 0⟩])] ⟨evB s d env st, evT st ++ [.vec [knG 0 (isT fr.1.t)]]⟩ _ := hcmp
  have q1 := evB_low s d env st 3 (by omega)
  have q2 := evT_lowc 2 3 (by omega) st (knG 0 (isT fr.1.t)) rfl
  have q3 := evB_low s d env st 4 (by omega)
  have q4 := evT_lowc 2 4 (by omega) st (knG 0 (isT fr.1.t)) rfl
  have q7 := AV.lowL_of_closed 2 3 _ (complArgs fr.1.t (if b.how = 2 then (getG b.arg a.1).1 else colG row b.col) b.table [] ⟨[], 0, 0⟩ (belowM' (x :: rest)) (p ++ [⟨key, 0⟩]))
  have q8 : AV.lowL 2 4 (AV.ptr 0 0 :: AV.vptr 3 10 1 0 0 :: [fr.1.t.enc, (if b.how = 2 then (getG b.arg a.1).1 else colG row b.col).enc, hangE .nilp b.table [] ⟨[], 0, 0⟩ (belowM' (x :: rest)) (p ++ [⟨key, 0⟩])]) = true := by
    have := AV.lowL_of_closed 2 4 _ (complArgs fr.1.t (if b.how = 2 then (getG b.arg a.1).1 else colG row b.col) b.table [] ⟨[], 0, 0⟩ (belowM' (x :: rest)) (p ++ [⟨key, 0⟩]))
    rw [AV.lowL, AV.lowL, this]; rfl
  have hget := get b.arg a.1 hal
  have hcol := col row b.col (by omega)
  generalize complM s pl b.table (belowM' (x :: rest)) (if b.how = 2 then (getG b.arg a.1).1 else colG row b.col) fr.1.t (p ++ [⟨key, 0⟩]) st.tick = r at *
  have q5 := evB_low s d env r.2 3 (by omega)
  have q6 := evT_lowc 2 3 (by omega) r.2 _ (Nd.kclosed r.1)
  by_cases c4 : b.how = 2
  · have n3 : (b.how == 2) = true := by rw [c4]; rfl
    rw [if_pos c4] at hcm q7 q8
    repeat' first | refine .br ?_ | refine A.allocv (d := 13) rfl rfl rfl rfl rfl ?_ | refine HCode.turn 13 rfl (Turn.freezeP rfl rfl rfl rfl) ?_ | refine .s1 ?_ | (refine .q ?_ ?_ <;> intro hc) | refine A.callA rfl hkp (WeakL.refl _) ?_ | refine A.nlP rfl ?_ | refine A.vnil rfl ?_ | refine A.callPre (B0 := evB s d env st) (B1 := evB s d env st) (T0 := evT st) (T1 := evT st) (B := []) (T := [_, _, _, _]) rfl hargs rfl (.inl rfl) (.inr rfl) (Nat.le_refl _) (Nat.le_refl _) b3 t3 b3 t3 hgl hrl (WeakL.refl _) ?_ | refine A.callPick (B0 := evB s d env st) (B1 := evB s d env r.2) (T0 := evT st) (T1 := evT r.2) (x0 := .vec [knG 0 (isT fr.1.t)]) (x1 := .vec [r.1.kenc]) (M := [_, _, _]) (M2 := [_]) (pre := [.ptr 0 0]) (post := [_, _, _]) rfl hcm rfl rfl rfl q1 q2 q3 q4 q5 q6 rfl q7 q8 rfl (WeakL.refl _) ?_ | refine A.vstore (agg := true) rfl rfl rfl rfl rfl rfl rfl rfl rfl rfl rfl ?_ | fail
    refine ⟨_, _, rfl, Turn.inner (k := 3) (i := 0) (c := 9) rfl rfl rfl (Turn.last (Turn.freezeP (k := 6) (n := 1) (j := 0) rfl rfl rfl rfl)) rfl rfl, rfl, ?_⟩
    simp only [knP, List.map_append, List.map_cons, List.map_nil]
    rfl
  · have n3 : (b.how == 2) = false := by simpa using c4
    rw [if_neg c4] at hcm q7 q8
    repeat' first | refine .br ?_ | refine A.allocv (d := 13) rfl rfl rfl rfl rfl ?_ | refine HCode.turn 13 rfl (Turn.freezeP rfl rfl rfl rfl) ?_ | refine .s1 ?_ | (refine .q ?_ ?_ <;> intro hc) | refine A.callA rfl hkp (WeakL.refl _) ?_ | refine A.nlP rfl ?_ | refine A.vnil rfl ?_ | refine A.callPre (B0 := evB s d env st) (B1 := evB s d env st) (T0 := evT st) (T1 := evT st) (B := []) (T := [_, _, _, _]) rfl hargs rfl (.inl rfl) (.inr rfl) (Nat.le_refl _) (Nat.le_refl _) b3 t3 b3 t3 hgl hrl (WeakL.refl _) ?_ | refine A.callPick (B0 := evB s d env st) (B1 := evB s d env r.2) (T0 := evT st) (T1 := evT r.2) (x0 := .vec [knG 0 (isT fr.1.t)]) (x1 := .vec [r.1.kenc]) (M := [_, _, _]) (M2 := [_]) (pre := [.ptr 0 0]) (post := [_, _, _]) rfl hcm rfl rfl rfl q1 q2 q3 q4 q5 q6 rfl q7 q8 rfl (WeakL.refl _) ?_ | refine A.vstore (agg := true) rfl rfl rfl rfl rfl rfl rfl rfl rfl rfl rfl ?_ | fail
    refine ⟨_, _, rfl, Turn.inner (k := 3) (i := 0) (c := 9) rfl rfl rfl (Turn.last (Turn.freezeP (k := 6) (n := 1) (j := 0) rfl rfl rfl rfl)) rfl rfl, rfl, ?_⟩
    simp only [knP, List.map_append, List.map_cons, List.map_nil]
    rfl
theorem eField (s : Sch) (d : Dcm) (env : List Mem) (hx : CtxOk s d env) (pl : Pl) (hplk : PlKeeps pl) (hpl : PlOk s d env pl) (typ : Str) (row : Row) (hrow : RowOk row) (key : Str) (x : Sl) (rest : List Sl) (sels0 : List Sl) (p : Path) (st : EvS) (m : Bool) (ks : List Str) (xs : List Nd) (h : EvOk st) (hs : SelsOk (x :: rest) st.c) (hp : p.length ≤ st.c) (hc0 : st.c ≤ 4096)
    (hkl : ks.length ≤ 1048576) (hxl : xs.length ≤ 1048576) (dox : Bool) (dv : AV) (h3 : x.name ≠ sTypename → (argsV s (fieldR s typ x.name).1.params x.args env).2 = 0 → (ofB s typ (fieldR s typ x.name).1).1.how = 3 → dox = false ∧ dv = .nilfn) (hc : (fieldM s d env pl dox typ row ⟨key, x :: rest⟩ (p ++ [⟨key, 0⟩]) st).2.c ≤ 4096) :
    AFn Tryz.prog 35 [.ptr 0 0, plE (.vptr 3 10 1 0 0) typ row sels0 p, Grp.enc ⟨key, x :: rest⟩, dv] ⟨evB s d env st, evT st ++ [.vec [knP m ks (xs.map fun y => .rptr y.kenc)], .len ks.length, .len xs.length]⟩
      (fun e σ' => e = .ret (.tup []) ∧ σ' = ⟨evB s d env (fieldM s d env pl dox typ row ⟨key, x :: rest⟩ (p ++ [⟨key, 0⟩]) st).2, evT (fieldM s d env pl dox typ row ⟨key, x :: rest⟩ (p ++ [⟨key, 0⟩]) st).2 ++
        [.vec [knP m (ks ++ [key]) ((xs ++ [(fieldM s d env pl dox typ row ⟨key, x :: rest⟩ (p ++ [⟨key, 0⟩]) st).1]).map fun y => .rptr y.kenc)], .len (ks.length + 1), .len (xs.length + 1)]⟩) := by
  have hF := h.F
  have hsz := hx.hs
  obtain ⟨f1, f2⟩ := fieldR_facts hx.so typ x.name
  have hfs : (fieldR s typ x.name).1.size = (fieldR s typ x.name).1.name.length + sumSize Par.size (fieldR s typ x.name).1.params + (fieldR s typ x.name).1.t.size + sumSize Dirc.size (fieldR s typ x.name).1.dirs + 4 := rfl
  have hfn : (fieldR s typ x.name).1.t.name.length ≤ (fieldR s typ x.name).1.t.size := by unfold Typ.size; omega
  refine eFieldK s d env hx pl dox dv typ row hrow.len key x rest sels0 p st m ks xs (by omega) ⟨(hs.all x (by simp)).1, (hs.all x (by simp)).2⟩ (by have := hs.sz; omega) (by omega) hkl hxl h3 fun c1 c2 c3 => ?_
  have hal : (argsV s (fieldR s typ x.name).1.params x.args env).1.length ≤ 9223372036854775807 := by
    have h1 := memsMk_len s true false env (dflAll s) (mkM s true env (dflLeaf s) x.args) (fieldR s typ x.name).1.params
    have h2 := sumSize_length (size := Par.size) Par.size_pos (fieldR s typ x.name).1.params
    unfold argsV
    omega
  unfold fieldM at hc
  dsimp only [List.headD] at hc
  rw [if_neg c1, if_neg (by simp [c2]), if_neg c3] at hc
  have hsp := @split_of s typ (fieldR s typ x.name).1
  have hbo : (ofB s typ (fieldR s typ x.name).1).2 = false → (ofB s typ (fieldR s typ x.name).1).1 = bnd0 := fun hb => by
    unfold ofB at hb ⊢
    split at hb
    · cases hb
    · rename_i hn; rw [if_neg hn]
  generalize argsV s (fieldR s typ x.name).1.params x.args env = a at *
  generalize fieldR s typ x.name = fr at *
  generalize ofB s typ fr.1 = bb at *
  obtain ⟨b, bk⟩ := bb
  dsimp only at hc hsp hbo c3 ⊢
  have hv : CvOk s (if b.how = 2 then (getG b.arg a.1).1 else colG row b.col) fr.1.t := by
    by_cases c4 : b.how = 2
    · left
      cases hb : bk with
      | true => exact ((hsp hb).2.2 (.inr c4)).1
      | false => rw [hbo hb] at c4; exact absurd c4 (by decide)
    · right
      rw [if_neg c4]
      unfold colG
      rcases getG_in b.col row.cols with e | ⟨z, hz, e⟩
      · rw [e]; exact ⟨by rw [val0_size']; decide, val0_ok'⟩
      · rw [e]; exact ⟨Nat.le_trans (hrow.vals z hz).1 (by decide), (hrow.vals z hz).2⟩
  exact eCompl s d env hx pl hplk hpl b.table (belowM' (x :: rest)) _ (if b.how = 2 then (getG b.arg a.1).1 else colG row b.col) (Nat.le_refl _) fr.1.t (p ++ [⟨key, 0⟩]) st.tick (isT fr.1.t) (by omega) h.tick.ok ((below_sels hs).mono (Nat.le_succ _)) (by rw [List.length_append]; exact Nat.succ_le_succ hp)
    (by have := tick_c s pl hplk b.table (belowM' (x :: rest)) (if b.how = 2 then (getG b.arg a.1).1 else colG row b.col) fr.1.t (p ++ [⟨key, 0⟩]) st.tick h.tick.ok; omega) hv hc
end Go.Proofs.YtmfmdehfbpkgdaaGreatDoor
