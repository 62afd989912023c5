/-
  Contracts and plain facts for a law, joined.
-/
import Derived.Test.YtmfmdehfbpkgdaaGreatDoorGEvC2
import Derived.Test.YtmfmdehfbpkgdaaGreatDoorGEvC7
import Derived.Test.YtmfmdehfbpkgdaaGreatDoorGEvC3
import Derived.Test.YtmfmdehfbpkgdaaGreatDoorGEvC4
import Derived.Test.YtmfmdehfbpkgdaaGreatDoorGEvC6
set_option maxRecDepth 100000
set_option maxHeartbeats 16000000
set_option linter.unusedVariables false
set_option linter.unusedSimpArgs false
set_option linter.unusedSectionVars false
namespace Go.Proofs.YtmfmdehfbpkgdaaGreatDoor
open Go Go.Av
attribute [local irreducible] HCode AOps PFn AFn Av.Step TStep
abbrev R3 := Val × Bool × Int
def memsF (R : Par → R3) : List Par → List Mem × Int
  | [] => ([], 0)
  | p :: ps => if (R p).2.2 ≠ 0 then ([], (R p).2.2) else if (memsF R ps).2 ≠ 0 then ([], (memsF R ps).2) else (if (R p).2.1 = true then .mk p.name (R p).1 :: (memsF R ps).1 else (memsF R ps).1, 0)
theorem memsMk_F (s : Sch) (wr within : Bool) (env : List Mem) (dfl : Par → VE) (fs : List MF) : ∀ ps : List Par, memsMk s wr within env dfl fs ps = memsF (memMk s wr within env dfl fs) ps
  | [] => rfl
  | p :: ps => by
    have ih := memsMk_F s wr within env dfl fs ps
    rw [memsMk, memsF, ih]
def memsA (R : Par → R3) : List Par → List Mem
  | [] => []
  | p :: ps => (if (R p).2.1 = true then [.mk p.name (R p).1] else []) ++ memsA R ps
theorem memsA_app (R : Par → R3) : ∀ a b : List Par, memsA R (a ++ b) = memsA R a ++ memsA R b
  | [], b => rfl
  | p :: a, b => by rw [List.cons_append, memsA, memsA, memsA_app R a b, List.append_assoc]
theorem memsA_len (R : Par → R3) : ∀ a : List Par, (memsA R a).length ≤ a.length
  | [] => Nat.le_refl _
  | p :: a => by
    have := memsA_len R a
    rw [memsA, List.length_append, List.length_cons]
    split <;> simp <;> omega
theorem memsF_err (R : Par → R3) : ∀ l, (memsF R l).2 ≠ 0 → (memsF R l).1 = []
  | [], _ => rfl
  | p :: l, h => by
    rw [memsF] at h ⊢
    by_cases c : (R p).2.2 ≠ 0
    · rw [if_pos c]
    · rw [if_neg c] at h ⊢
      by_cases d : (memsF R l).2 ≠ 0
      · rw [if_pos d]
      · rw [if_neg d] at h; exact absurd rfl h
def memsJ (R : Par → R3) (l : List Par) (k : Nat) : Prop :=
  memsF R l = if (memsF R (l.drop k)).2 ≠ 0 then ([], (memsF R (l.drop k)).2) else (memsA R (l.take k) ++ (memsF R (l.drop k)).1, 0)
theorem memsJ_zero (R : Par → R3) (l : List Par) : memsJ R l 0 := by
  unfold memsJ
  rw [List.drop_zero, List.take_zero, memsA, List.nil_append]
  by_cases h : (memsF R l).2 ≠ 0
  · rw [if_pos h, ← memsF_err R l h]
  · rw [if_neg h]
    have h' : (memsF R l).2 = 0 := by simpa using h
    rw [← h']
section
variable {R : Par → R3} {l : List Par} {k : Nat} (h : k < l.length) (hj : memsJ R l k)
include h hj
theorem memsJ_err (he : (R l[k]).2.2 ≠ 0) : memsF R l = ([], (R l[k]).2.2) := by
  unfold memsJ at hj
  have e : memsF R (l.drop k) = ([], (R l[k]).2.2) := by rw [List.drop_eq_getElem_cons h, memsF, if_pos he]
  rw [hj, e, if_pos he]
theorem memsJ_next (he : (R l[k]).2.2 = 0) : memsJ R l (k + 1) := by
  unfold memsJ at hj ⊢
  have e : memsF R (l.drop k) = if (memsF R (l.drop (k + 1))).2 ≠ 0 then ([], (memsF R (l.drop (k + 1))).2) else (if (R l[k]).2.1 = true then .mk l[k].name (R l[k]).1 :: (memsF R (l.drop (k + 1))).1 else (memsF R (l.drop (k + 1))).1, 0) := by
    rw [List.drop_eq_getElem_cons h, memsF, if_neg (by rw [he]; simp)]
  rw [hj, e, List.take_succ_eq_append_getElem h, memsA_app]
  generalize memsF R (l.drop (k + 1)) = q
  obtain ⟨q1, q2⟩ := q
  by_cases c : q2 = 0
  · subst c
    cases b : (R l[k]).2.1 <;> simp [memsA, b]
  · simp [c]
end
theorem memsJ_end {R : Par → R3} {l : List Par} (hj : memsJ R l l.length) : memsF R l = (memsA R l, 0) := by
  unfold memsJ at hj
  rw [List.drop_length, List.take_length, memsF, if_neg (by simp), List.append_nil] at hj
  exact hj
theorem Fin.ret2C {t1 t2 : Nat} {s : Slots} {v1 v2 r : AV} (h1 : lk? s t1 = some v1) (h2 : lk? s t2 = some v2) (hw : Weak (.tup [v1, v2]) r) : ∃ v', AEnd.ret (resAV s [t1, t2]) = .ret v' ∧ Weak v' r :=
  ⟨_, rfl, by rw [show resAV s [t1, t2] = .tup [v1, v2] by unfold resAV; simp only [List.map_cons, List.map_nil, lk_of h1, lk_of h2]]; exact hw⟩
theorem cMembers (s : Sch) (wr within : Bool) (env g : List Mem) (ps : List Par) (R : Par → R3) (hps : ps.length ≤ 68719476736)
    (hR : ∀ p ∈ ps, PFn Tryz.prog 173 [mkE s wr within env, p.enc, .slice (g.map Mem.enc) .no] (M3.enc (R p))) :
    PFn Tryz.prog 143 [mkE s wr within env, .slice (ps.map Par.enc) .no, .slice (g.map Mem.enc) .no] (.tup [.slice ((memsF R ps).1.map Mem.enc) .no, .int .i64 (memsF R ps).2]) := by
  refine AFn.plain (by simp [AV.closed, AV.closedL, Mem.closedL]) (by simp [AV.closed, AV.closedL, mkE_closed, Par.closedL, Mem.closedL]) (AFn.en [6, 7] Tryz.func143 ?_)
  refine .gob ?_
  refine HCode.adopt 8 true 6 rfl rfl rfl rfl rfl rfl ?_
  refine HCode.forK ps.length (fun k => [(16, .int .i64 k), (15, .int .i64 ps.length), (14, .slice (ps.map Par.enc) .no), (2, .slice (g.map Mem.enc) .no), (3, .rptr (mkE s wr within env)), (8, .slice ((memsA R (ps.take k)).map Mem.enc) (.own 0 6))])
    (fun k => ⟨[], [.len (memsA R (ps.take k)).length]⟩) (memsJ R ps) ⟨rfl, rfl, rfl, rfl, rfl, rfl, trivial⟩ rfl (memsJ_zero R ps) fun k hk hj => ?_
  by_cases h1 : k < ps.length
  · have d1 : decide ((k : Int) < (ps.length : Int)) = true := by simp [h1]
    have x1 := map_get' (f := Par.enc) h1
    have hm := hR ps[k] (List.getElem_mem h1)
    have je := memsJ_err h1 hj
    have jn := memsJ_next h1 hj
    have hla := memsA_len R (ps.take k)
    rw [List.length_take] at hla
    have htk : memsA R (ps.take (k + 1)) = memsA R (ps.take k) ++ (if (R ps[k]).2.1 = true then [.mk ps[k].name (R ps[k]).1] else []) := by
      rw [List.take_succ_eq_append_getElem h1, memsA_app, memsA, memsA, List.append_nil]
    generalize R ps[k] = r at hm je jn htk
    obtain ⟨rv, rb, re⟩ := r
    unfold M3.enc at hm
    simp only at hm je jn htk
    by_cases er : re = 0
    · subst er
      have jn' := jn rfl
      cases rb with
      | true =>
        rw [if_pos rfl] at htk
        repeat' first | refine .s1 ?_ | (refine .q ?_ ?_ <;> intro hc) | refine A.append (n := (memsA R (ps.take k)).length) rfl rfl rfl rfl rfl rfl rfl rfl (List.length_map ..) rfl (by dsimp only [List.length_cons, List.length_nil]; omega) (by dsimp only [List.length_cons, List.length_nil]; omega) rfl ?_ | fail
        exact ⟨h1, ⟨rfl, rfl, rfl, rfl, rfl, by rw [htk, List.map_append]; rfl, trivial⟩, by simp [belowS, AV.low, AV.low_of_closed, mkE_closed], by simp [belowB, belowT, Ob.low, Tok.low, AV.lowL, AV.low], by rw [htk, List.length_append]; rfl, jn'⟩
      | false =>
        rw [if_neg (by decide), List.append_nil] at htk
        refine .go ?_
        exact ⟨h1, ⟨rfl, rfl, rfl, rfl, rfl, by rw [htk]; rfl, trivial⟩, by simp [belowS, AV.low, AV.low_of_closed, mkE_closed], by simp [belowB, belowT, Ob.low, Tok.low, AV.lowL, AV.low], by rw [htk]; rfl, jn'⟩
    · have er' : (re != 0) = true := by simpa using er
      rw [je er]
      refine .go ?_
      exact Fin.ret2C rfl rfl (Weak.tup (WeakL.cons (Weak.no (WeakL.refl _)) (WeakL.refl _)))
  · have d1 : decide ((k : Int) < (ps.length : Int)) = false := by simp; omega
    obtain rfl : k = ps.length := by omega
    rw [memsJ_end hj]
    refine .go ?_
    refine Fin.ret2C rfl rfl (Weak.tup (WeakL.cons (Weak.no (WeakL.eq ?_)) (WeakL.refl _)))
    rw [List.take_length]
end Go.Proofs.YtmfmdehfbpkgdaaGreatDoor
namespace Go.Proofs.YtmfmdehfbpkgdaaGreatDoor
open Go Go.Av
attribute [local irreducible] HCode AOps PFn AFn Av.Step TStep
def strangeP (wr : Bool) (env m : List Mem) (ps : List Par) (x : Mem) : Bool := (parO ps x.name).isNone && (match envO m x.name with | some y => thereB wr env y | none => false)
theorem strange_eq (s : Sch) (wr : Bool) (env : List Mem) (dfl : Par → VE) (m : List Mem) (ps : List Par) : strange wr env (mkM s wr env dfl m) ps = m.any (strangeP wr env m ps) := by
  unfold strange strangeP
  have key : ∀ l : List Mem, (mkM s wr env dfl l).any (fun f => (parO ps f.1).isNone && (match firstF (mkM s wr env dfl m) f.1 with | some g => thereB wr env g.2.1 | none => false)) = l.any (fun x => (parO ps x.name).isNone && (match envO m x.name with | some y => thereB wr env y | none => false)) := by
    intro l
    induction l with
    | nil => rw [mkM]; rfl
    | cons x l ih =>
      obtain ⟨n, v⟩ := x
      rw [mkM, List.any_cons, List.any_cons, ih]
      congr 1
      show ((parO ps n).isNone && _) = ((parO ps n).isNone && _)
      congr 1
      show (match firstF (mkM s wr env dfl m) n with | some g => thereB wr env g.2.1 | none => false) = (match envO m n with | some y => thereB wr env y | none => false)
      rw [firstF_mkM]
      unfold envO
      cases m.find? (fun x => x.name == n) <;> rfl
  exact key m
theorem envO_mem {m : List Mem} {x : Mem} (h : x ∈ m) : ∃ y, envO m x.name = some y := by
  unfold envO
  cases e : m.find? (fun z => z.name == x.name) with
  | none => have := List.find?_eq_none.1 e x h; simp at this
  | some z => exact ⟨z.v, rfl⟩
theorem weak_inputC {l : List Mem} {t1 t2 : Tk} : Weak (.agg [.int .i64 7, .int .i64 0, .str [], .slice [] t1, .slice (l.map Mem.enc) t2]) (Val.mk 7 0 [] [] l).enc := by
  unfold Val.enc
  rw [Val.mv_eq, lv_mk]
  exact Weak.agg (WeakL.cons (Weak.refl _) (WeakL.cons (Weak.refl _) (WeakL.cons (Weak.refl _) (WeakL.cons (Weak.no (WeakL.refl _)) (WeakL.cons (Weak.no (WeakL.refl _)) (WeakL.refl _))))))
theorem cInput (s : Sch) (wr within : Bool) (env : List Mem) (d : Dfn) (v : Val) (r : List Mem × Int) (he : env.length ≤ 68719476736) (hv : v.size ≤ 68719476736) (hps : d.params.length ≤ 68719476736)
    (hM : PFn Tryz.prog 143 [mkE s wr true env, .slice (d.params.map Par.enc) .no, .slice v.mv .no] (.tup [.slice (r.1.map Mem.enc) .no, .int .i64 r.2])) :
    PFn Tryz.prog 231 [mkE s wr within env, d.enc, v.enc] (VE.enc (if v.kind = 7 then (if v.m.any (strangeP wr env v.m d.params) = true then (val0, 6) else if r.2 ≠ 0 then (val0, r.2) else (.mk 7 0 [] [] r.1, 0)) else (val0, 7))) := by
  have hml := v.m_len
  refine AFn.plain (VE.closed _) (by simp [AV.closed, AV.closedL, mkE_closed, Dfn.closed, Val.closed]) (AFn.eR [.cell 6 38, .tmp 7] Tryz.func231 ?_)
  by_cases k7 : v.kind = 7
  · have q7 : (v.kind != 7) = false := by simp [k7]
    rw [if_pos k7]
    repeat' first | refine AOps.br (d := 4) ?_ | refine AOps.br (d := 5) ?_ | refine .s1 ?_ | (refine .q ?_ ?_ <;> intro hc) | fail
    refine HCode.forK v.m.length (fun k => [(23, .int .i64 k), (22, .int .i64 v.mv.length), (21, .slice v.mv .no), (3, .ptr 0 0), (4, .rptr d.enc), (5, .rptr v.enc), (6, .ptr 1 0)])
      (fun _ => ⟨[.cells [.slice (s.defs.map Dfn.enc) .no, .str s.query, .str s.mutation, .bool wr, .bool within, .slice (env.map Mem.enc) .no], .cells zeroV], []⟩) (fun k => (v.m.take k).any (strangeP wr env v.m d.params) = false)
      ⟨rfl, rfl, rfl, rfl, rfl, rfl, rfl, trivial⟩ rfl (by rw [List.take_zero]; rfl) fun k hk hj => ?_
    by_cases h1 : k < v.m.length
    · have d1 : decide ((k : Int) < (v.mv.length : Int)) = true := by rw [v.mv_len]; simp [h1]
      have x1 := Val.mv_get h1
      have hmem := List.getElem_mem h1
      have hpar := lParam d.params v.m[k].name (by omega)
      have hg := get v.m[k].name v.m (by omega)
      rw [envO_getG, ← v.mv_eq] at hg
      obtain ⟨y, hy⟩ := envO_mem hmem
      rw [hy] at hg
      have hth := cThere s wr within env y (by omega)
      have hst : strangeP wr env v.m d.params v.m[k] = ((parO d.params v.m[k].name).isNone && thereB wr env y) := by unfold strangeP; rw [hy]
      have htk : (v.m.take (k + 1)).any (strangeP wr env v.m d.params) = strangeP wr env v.m d.params v.m[k] := by
        rw [List.take_succ_eq_append_getElem h1, List.any_append, hj]; simp
      cases hpo : parO d.params v.m[k].name with
      | none =>
        have e1 : parR d.params v.m[k].name = (zeroP, false) := by rw [parR, hpo]
        rw [e1] at hpar
        rw [hpo] at hst
        cases c : thereB wr env y with
        | true =>
          rw [c] at hth hst
          have hany : v.m.any (strangeP wr env v.m d.params) = true := List.any_eq_true.2 ⟨_, hmem, hst⟩
          rw [if_pos hany]
          refine .go ?_
          exact FinR.ret1 rfl weak_ve0
        | false =>
          rw [c] at hth hst
          refine .go ?_
          exact ⟨h1, ⟨rfl, rfl, rfl, rfl, rfl, rfl, rfl, trivial⟩, by simp [belowS, AV.low, AV.low_of_closed, mkE_closed], by simp [belowB, belowT, Ob.low, Tok.low, AV.lowL, AV.low, zeroV], rfl, htk.trans hst⟩
      | some p =>
        have e1 : parR d.params v.m[k].name = (p, true) := by rw [parR, hpo]
        rw [e1] at hpar
        rw [hpo] at hst
        refine .go ?_
        exact ⟨h1, ⟨rfl, rfl, rfl, rfl, rfl, rfl, rfl, trivial⟩, by simp [belowS, AV.low, AV.low_of_closed, mkE_closed], by simp [belowB, belowT, Ob.low, Tok.low, AV.lowL, AV.low, zeroV], rfl, htk.trans hst⟩
    · have d1 : decide ((k : Int) < (v.mv.length : Int)) = false := by rw [v.mv_len]; simp; omega
      obtain rfl : k = v.m.length := by omega
      rw [List.take_length] at hj
      rw [if_neg (by rw [hj]; decide)]
      obtain ⟨rl, re⟩ := r
      simp only at hM ⊢
      by_cases er : re = 0
      · subst er
        rw [if_neg (by simp)]
        refine .go ?_
        exact FinR.ret1 rfl (Weak.tup (WeakL.cons weak_inputC (WeakL.refl _)))
      · have er' : (re != 0) = true := by simpa using er
        rw [if_pos er]
        refine .go ?_
        exact FinR.ret1 rfl weak_ve0
  · have q7 : (v.kind != 7) = true := by simp [k7]
    rw [if_neg k7]
    refine .gob ?_
    exact FinR.ret1 rfl weak_ve0
def seqV (odd : Val → Bool) (F : Val → Val × Int) : List Val → List Val × Int
  | [] => ([], 0)
  | x :: l => if odd x = true then ([], 7) else if (F x).2 ≠ 0 then ([], (F x).2) else if (seqV odd F l).2 ≠ 0 then ([], (seqV odd F l).2) else ((F x).1 :: (seqV odd F l).1, 0)
theorem mkL_seq (s : Sch) (wr : Bool) (env : List Mem) (dfl : Par → VE) (t : Typ) : ∀ l : List Val, mkL s wr env dfl l t = seqV (fun x => oddItem wr t x.kind) (fun x => mkV s wr env dfl x t) l
  | [] => by rw [mkL, seqV]
  | v :: l => by rw [mkL, seqV, mkL_seq s wr env dfl t l]
def seqJ (odd : Val → Bool) (F : Val → Val × Int) (l : List Val) (k : Nat) : Prop :=
  seqV odd F l = if (seqV odd F (l.drop k)).2 ≠ 0 then ([], (seqV odd F (l.drop k)).2) else ((l.take k).map (fun x => (F x).1) ++ (seqV odd F (l.drop k)).1, 0)
theorem seqV_err (odd : Val → Bool) (F : Val → Val × Int) : ∀ l, (seqV odd F l).2 ≠ 0 → (seqV odd F l).1 = []
  | [], _ => rfl
  | x :: l, h => by
    rw [seqV] at h ⊢
    split at h
    · rw [if_pos (by assumption)]
    · rw [if_neg (by assumption)]
      split at h
      · rw [if_pos (by assumption)]
      · rw [if_neg (by assumption)]
        split at h
        · rw [if_pos (by assumption)]
        · exact absurd rfl h
theorem seqJ_zero (odd : Val → Bool) (F : Val → Val × Int) (l : List Val) : seqJ odd F l 0 := by
  unfold seqJ
  rw [List.drop_zero, List.take_zero, List.map_nil, List.nil_append]
  by_cases h : (seqV odd F l).2 ≠ 0
  · rw [if_pos h, ← seqV_err odd F l h]
  · rw [if_neg h]
    have h' : (seqV odd F l).2 = 0 := by simpa using h
    rw [← h']
section
variable {odd : Val → Bool} {F : Val → Val × Int} {l : List Val} {k : Nat} (h : k < l.length) (hj : seqJ odd F l k)
include h hj
theorem seqJ_odd (ho : odd l[k] = true) : seqV odd F l = ([], 7) := by
  unfold seqJ at hj
  rw [hj, List.drop_eq_getElem_cons h, seqV, if_pos ho]; rfl
theorem seqJ_err (ho : odd l[k] = false) (he : (F l[k]).2 ≠ 0) : seqV odd F l = ([], (F l[k]).2) := by
  unfold seqJ at hj
  have e : seqV odd F (l.drop k) = ([], (F l[k]).2) := by rw [List.drop_eq_getElem_cons h, seqV, if_neg (by rw [ho]; decide), if_pos he]
  rw [hj, e, if_pos he]
theorem seqJ_next (ho : odd l[k] = false) (he : (F l[k]).2 = 0) : seqJ odd F l (k + 1) := by
  unfold seqJ at hj ⊢
  have e : seqV odd F (l.drop k) = if (seqV odd F (l.drop (k + 1))).2 ≠ 0 then ([], (seqV odd F (l.drop (k + 1))).2) else ((F l[k]).1 :: (seqV odd F (l.drop (k + 1))).1, 0) := by
    rw [List.drop_eq_getElem_cons h, seqV, if_neg (by rw [ho]; decide), if_neg (by rw [he]; simp)]
  rw [hj, e, List.take_succ_eq_append_getElem h, List.map_append]
  generalize seqV odd F (l.drop (k + 1)) = q
  obtain ⟨q1, q2⟩ := q
  by_cases c : q2 = 0
  · subst c; simp
  · simp [c]
end
theorem seqJ_end {odd : Val → Bool} {F : Val → Val × Int} {l : List Val} (hj : seqJ odd F l l.length) : seqV odd F l = (l.map (fun x => (F x).1), 0) := by
  unfold seqJ at hj
  rw [List.drop_length, List.take_length, seqV, if_neg (by simp), List.append_nil] at hj
  exact hj
def listMk (odd : Val → Bool) (F : Val → Val × Int) (l : List Val) : Val × Int := if (seqV odd F l).2 ≠ 0 then (val0, (seqV odd F l).2) else (.mk 6 0 [] (seqV odd F l).1 [], 0)
theorem weak_ofListC {l : List Val} {n : Int} {str : Str} {t1 t2 : Tk} : Weak (.agg [.int .i64 6, .int .i64 n, .str str, .slice (l.map Val.enc) t1, .slice [] t2]) (Val.mk 6 n str l []).enc := by
  unfold Val.enc
  rw [Val.lv_eq, mv_mk]
  exact Weak.agg (WeakL.cons (Weak.refl _) (WeakL.cons (Weak.refl _) (WeakL.cons (Weak.refl _) (WeakL.cons (Weak.no (WeakL.refl _)) (WeakL.cons (Weak.no (WeakL.refl _)) (WeakL.refl _))))))
theorem lowL_appC {a n : Nat} : ∀ (xs ys : List AV), AV.lowL a n (xs ++ ys) = (AV.lowL a n xs && AV.lowL a n ys)
  | [], ys => by simp [AV.lowL]
  | x :: xs, ys => by rw [List.cons_append, AV.lowL, AV.lowL, lowL_appC xs ys, Bool.and_assoc]
theorem lowL_takeC (a n k : Nat) (l : List Val) (F : Val → Val × Int) : AV.lowL a n (List.take k (List.map (Val.enc ∘ fun x => (F x).1) l)) = true := by
  rw [← List.map_map, ← List.map_take]
  exact Val.lowL' a n _
theorem oddItem_no {wr : Bool} {t : Typ} {k : Int} (h : oddItem wr t k = false) : decide (0 < t.lists) = false ∨ (decide (0 < t.lists) = true ∧ (k != 6) = false) ∨ (decide (0 < t.lists) = true ∧ (k != 6) = true ∧ (k != 0) = false) ∨ (decide (0 < t.lists) = true ∧ (k != 6) = true ∧ (k != 0) = true ∧ wr = true ∧ (k == 8) = true) := by
  unfold oddItem at h
  cases a1 : decide (0 < t.lists) <;> cases a2 : (k != 6) <;> cases a3 : (k != 0) <;> cases wr <;> cases a4 : (k == 8) <;> rw [a1, a2, a3, a4] at h <;> simp_all
theorem cListL (s : Sch) (wr within : Bool) (env : List Mem) (t : Typ) (v : Val) (F : Val → Val × Int) (h6 : v.kind = 6) (hv : v.size ≤ 68719476736)
    (hF : ∀ x ∈ v.l, PFn Tryz.prog 214 [mkE s wr within env, t.enc, x.enc] (VE.enc (F x))) :
    PFn Tryz.prog 228 [mkE s wr within env, t.enc, v.enc] (VE.enc (listMk (fun x => oddItem wr t x.kind) F v.l)) := by
  have q6 : (v.kind == 6) = true := by simp [h6]
  have q6' : (v.kind != 6) = false := by simp [h6]
  have hll := v.l_len
  refine AFn.plain (VE.closed _) (by simp [AV.closed, AV.closedL, mkE_closed, Typ.closed, Val.closed]) (AFn.eR [.cell 6 38, .tmp 7] Tryz.func228 ?_)
  refine .gob ?_
  refine HCode.adoptB 1 3 true 5 rfl rfl rfl rfl rfl rfl rfl rfl ?_
  refine HCode.forK v.l.length (fun k => [(24, .int .i64 k), (23, .int .i64 v.lv.length), (22, .slice v.lv .no), (3, .rptr (mkE s wr within env)), (4, .rptr t.enc), (5, .rptr v.enc), (6, .ptr 0 0), (9, .ptr 1 0)])
    (fun k => ⟨[.cells zeroV, .cells [.int .i64 6, .int .i64 0, .str [], .slice (((v.l.take k).map (fun x => (F x).1)).map Val.enc) (.own 0 5), .slice [] .nil]], [.len k]⟩) (seqJ (fun x => oddItem wr t x.kind) F v.l)
    ⟨rfl, rfl, rfl, rfl, rfl, rfl, rfl, rfl, trivial⟩ rfl (seqJ_zero _ _ _) fun k hk hj => ?_
  by_cases h1 : k < v.l.length
  · have d1 : decide ((k : Int) < (v.lv.length : Int)) = true := by rw [v.lv_len]; simp [h1]
    have x1 := Val.lv_get h1
    have hc := hF v.l[k] (List.getElem_mem h1)
    have jo := seqJ_odd h1 hj
    have je := seqJ_err h1 hj
    have jn := seqJ_next h1 hj
    have hlen : ((v.l.take k).map (fun x => (F x).1)).length = k := by rw [List.length_map, List.length_take]; omega
    have hlen' : (((v.l.take k).map (fun x => (F x).1)).map Val.enc).length = k := by rw [List.length_map, hlen]
    have htk : (v.l.take (k + 1)).map (fun x => (F x).1) = (v.l.take k).map (fun x => (F x).1) ++ [(F v.l[k]).1] := by rw [List.take_succ_eq_append_getElem h1, List.map_append]; rfl
    cases o : oddItem wr t v.l[k].kind with
    | true =>
      have js := jo o
      unfold oddItem at o
      simp only [Bool.and_eq_true, decide_eq_true_eq, Bool.not_eq_true'] at o
      obtain ⟨o1, o2, o3, o4⟩ := o
      have e1 : decide (0 < t.lists) = true := decide_eq_true o1
      cases wr with
      | true =>
        have o4' : (v.l[k].kind == 8) = false := by simpa using o4
        have o4'' : (!(v.l[k].kind == 8)) = true := by rw [o4']; rfl
        refine .go ?_
        refine FinR.ret1 rfl ?_
        unfold listMk
        rw [js]
        exact weak_ve0
      | false =>
        refine .go ?_
        refine FinR.ret1 rfl ?_
        unfold listMk
        rw [js]
        exact weak_ve0
    | false =>
      by_cases er : (F v.l[k]).2 = 0
      · have jn' := jn o er
        generalize hr : F v.l[k] = r at hc er htk
        obtain ⟨rv, re⟩ := r
        simp only at er htk
        subst er
        unfold VE.enc at hc
        simp only at hc
        rcases oddItem_no o with a1 | ⟨a1, a2⟩ | ⟨a1, a2, a3⟩ | ⟨a1, a2, a3, rfl, a4⟩
        all_goals
            try (have a4' : (!(v.l[k].kind == 8)) = false := by (rw [a4]; rfl))
            (repeat' first | refine .s1 ?_ | (refine .q ?_ ?_ <;> intro hc) | refine A.append (n := k) rfl rfl rfl rfl rfl rfl rfl rfl hlen' rfl (by dsimp only [List.length_cons, List.length_nil]; omega) (by dsimp only [List.length_cons, List.length_nil]; omega) rfl ?_ | fail
             exact ⟨h1, ⟨rfl, rfl, rfl, rfl, rfl, rfl, rfl, rfl, trivial⟩, by simp [belowS, AV.low, AV.low_of_closed, mkE_closed], by simp [belowB, belowT, Ob.low, Tok.low, AV.lowL, AV.low, zeroV, lowL_appC, lowL_takeC], by rw [htk, List.map_append]; rfl, jn'⟩)
      · have js := je o er
        have er' : ((F v.l[k]).2 != 0) = true := by simpa using er
        have hlm : listMk (fun x => oddItem wr t x.kind) F v.l = (val0, (F v.l[k]).2) := by unfold listMk; rw [js]; simp only; rw [if_pos er]
        rw [hlm]
        generalize F v.l[k] = r at hc er er'
        obtain ⟨rv, re⟩ := r
        simp only at er er'
        unfold VE.enc at hc
        simp only at hc
        rcases oddItem_no o with a1 | ⟨a1, a2⟩ | ⟨a1, a2, a3⟩ | ⟨a1, a2, a3, rfl, a4⟩
        all_goals
            try (have a4' : (!(v.l[k].kind == 8)) = false := by (rw [a4]; rfl))
            (refine .go ?_
             exact FinR.ret1 rfl weak_ve0)
  · have d1 : decide ((k : Int) < (v.lv.length : Int)) = false := by rw [v.lv_len]; simp; omega
    obtain rfl : k = v.l.length := by omega
    have js := seqJ_end hj
    have hlm : listMk (fun x => oddItem wr t x.kind) F v.l = (.mk 6 0 [] (v.l.map fun x => (F x).1) [], 0) := by unfold listMk; rw [js]; rfl
    rw [hlm]
    refine .go ?_
    refine FinR.ret1 rfl ?_
    rw [List.take_length]
    exact Weak.tup (WeakL.cons weak_ofListC (WeakL.refl _))
theorem cListO (s : Sch) (wr within : Bool) (env : List Mem) (t : Typ) (v : Val) (r : Val × Int) (h6 : v.kind ≠ 6)
    (hF : PFn Tryz.prog 214 [mkE s wr within env, t.enc, v.enc] (VE.enc r)) :
    PFn Tryz.prog 228 [mkE s wr within env, t.enc, v.enc] (VE.enc (if r.2 ≠ 0 then (val0, r.2) else (.mk 6 0 [] [r.1] [], 0))) := by
  have q6 : (v.kind == 6) = false := by simp [h6]
  have q6' : (v.kind != 6) = true := by simp [h6]
  obtain ⟨rv, re⟩ := r
  unfold VE.enc at hF
  simp only at hF ⊢
  refine AFn.plain (VE.closed _) (by simp [AV.closed, AV.closedL, mkE_closed, Typ.closed, Val.closed]) (AFn.eR [.cell 6 38, .tmp 7] Tryz.func228 ?_)
  by_cases er : re = 0
  · subst er
    rw [if_neg (by simp)]
    refine .gob ?_
    refine HCode.adoptB 1 3 true 5 rfl rfl rfl rfl rfl rfl rfl rfl ?_
    refine HCode.forK 1 (fun k => [(24, .int .i64 k), (23, .int .i64 1), (22, .slice [v.enc] .full), (3, .rptr (mkE s wr within env)), (4, .rptr t.enc), (5, .rptr v.enc), (6, .ptr 0 0), (9, .ptr 1 0)])
      (fun k => ⟨[.cells zeroV, .cells [.int .i64 6, .int .i64 0, .str [], .slice ((List.replicate k rv).map Val.enc) (.own 0 5), .slice [] .nil]], [.len k]⟩) (fun _ => True)
      ⟨rfl, rfl, rfl, rfl, rfl, rfl, rfl, rfl, trivial⟩ rfl trivial fun k hk _ => ?_
    by_cases h1 : k < 1
    · obtain rfl : k = 0 := by omega
      have x1 : [v.enc][0]? = some v.enc := rfl
      repeat' first | refine .s1 ?_ | (refine .q ?_ ?_ <;> intro hc) | refine A.append (n := 0) rfl rfl rfl rfl rfl rfl rfl rfl rfl rfl (by dsimp only [List.length_cons, List.length_nil]; omega) (by dsimp only [List.length_cons, List.length_nil]; omega) rfl ?_ | fail
      exact ⟨h1, ⟨rfl, rfl, rfl, rfl, rfl, rfl, rfl, rfl, trivial⟩, by simp [belowS, AV.low, AV.lowL, AV.low_of_closed, mkE_closed], by simp [belowB, belowT, Ob.low, Tok.low, AV.lowL, AV.low, zeroV], rfl, trivial⟩
    · obtain rfl : k = 1 := by omega
      refine .go ?_
      exact FinR.ret1 rfl (Weak.tup (WeakL.cons weak_ofListC (WeakL.refl _)))
  · have er' : (re != 0) = true := by simpa using er
    rw [if_pos er]
    refine .gob ?_
    refine HCode.forK 1 (fun k => [(24, .int .i64 k), (23, .int .i64 1), (22, .slice [v.enc] .full), (3, .rptr (mkE s wr within env)), (4, .rptr t.enc), (5, .rptr v.enc), (6, .ptr 0 0), (9, .ptr 1 0)])
      (fun k => ⟨[.cells zeroV, .cells [.int .i64 6, .int .i64 0, .str [], .slice [] .nil, .slice [] .nil]], []⟩) (fun k => k = 0)
      ⟨rfl, rfl, rfl, rfl, rfl, rfl, rfl, rfl, trivial⟩ rfl rfl fun k hk hk0 => ?_
    subst hk0
    have x1 : [v.enc][0]? = some v.enc := rfl
    refine .go ?_
    exact FinR.ret1 rfl weak_ve0
end Go.Proofs.YtmfmdehfbpkgdaaGreatDoor
namespace Go.Proofs.YtmfmdehfbpkgdaaGreatDoor
open Go Go.Av
theorem scalMk_err {n : Str} {v : Val} (h : (scalMk n v).2 ≠ 0) : (scalMk n v).1 = val0 := by
  unfold scalMk at h ⊢
  split
  · rfl
  · rename_i c1
    rw [if_neg c1] at h
    split
    · rename_i c2
      rw [if_pos c2] at h; exact absurd rfl h
    · rename_i c2
      rw [if_neg c2] at h
      split
      · rename_i c3
        rw [if_pos c3] at h; exact absurd rfl h
      · rfl
theorem enumMk_err {wr : Bool} {d : Dfn} {k : Int} {str : Str} (h : (enumMk wr d k str).2 ≠ 0) : (enumMk wr d k str).1 = val0 := by
  unfold enumMk at h ⊢
  by_cases c : k = (if wr = true then 5 else 4) ∧ str ∈ d.parts
  · rw [if_pos c] at h; exact absurd rfl h
  · rw [if_neg c]
theorem inputMk_err {s : Sch} {wr : Bool} {env : List Mem} {dfl : Par → VE} {fs : List MF} {d : Dfn} (h : (inputMk s wr env dfl fs d).2 ≠ 0) : (inputMk s wr env dfl fs d).1 = val0 := by
  unfold inputMk at h ⊢
  by_cases c : strange wr env fs d.params = true
  · rw [if_pos c]
  · rw [if_neg c] at h ⊢
    dsimp only at h ⊢
    by_cases q : (memsMk s wr true env dfl fs d.params).2 ≠ 0
    · rw [if_pos q]
    · rw [if_neg q] at h; exact absurd rfl h
theorem baseMk_err (s : Sch) (wr : Bool) (env : List Mem) (dfl : Par → VE) (name : Str) (v : Val) (fs : List MF) (h : (baseMk s wr env dfl name v fs).2 ≠ 0) : (baseMk s wr env dfl name v fs).1 = val0 := by
  unfold baseMk at h ⊢
  cases hf : findO s name with
  | none => rfl
  | some d =>
    rw [hf] at h
    dsimp only at h ⊢
    by_cases k0 : d.kind = 0
    · rw [if_pos k0] at h ⊢; exact scalMk_err h
    · rw [if_neg k0] at h ⊢
      by_cases k4 : d.kind = 4
      · rw [if_pos k4] at h ⊢; exact enumMk_err h
      · rw [if_neg k4] at h ⊢
        by_cases k5 : d.kind = 5
        · rw [if_pos k5] at h ⊢
          by_cases k7 : v.kind = 7
          · rw [if_pos k7] at h ⊢; exact inputMk_err h
          · rw [if_neg k7]
        · rw [if_neg k5]
theorem mkV_eq (s : Sch) (wr : Bool) (env : List Mem) (dfl : Par → VE) (v : Val) (t : Typ) : mkV s wr env dfl v t =
    if wr = true ∧ v.kind = 8 then (match envO env v.s with
      | some x => if x.kind = 0 ∧ isT t = true then (val0, 9) else (x, 0)
      | none => if isT t = true then (val0, 9) else (val0, 0))
    else if v.kind = 0 then (if isT t = true then (val0, 9) else (v, 0))
    else if rightT t = true ∧ t.lists ≠ 0 then
      (if v.kind = 6 then (if (mkL s wr env dfl v.l (itemT t)).2 ≠ 0 then (val0, (mkL s wr env dfl v.l (itemT t)).2) else (.mk 6 0 [] (mkL s wr env dfl v.l (itemT t)).1 [], 0))
      else wrapR t.lists.toNat (baseMk s wr env dfl t.name v (mkM s wr env dfl v.m)))
    else baseMk s wr env dfl t.name v (mkM s wr env dfl v.m) := by
  cases v
  rw [mkV]
  rfl
theorem mkV_down {s : Sch} {wr : Bool} {env : List Mem} {dfl : Par → VE} {v : Val} {t : Typ} (h8 : ¬ (wr = true ∧ v.kind = 8)) (h0 : v.kind ≠ 0) (h6 : v.kind ≠ 6) (hr : rightT t = true) (hl : t.lists ≠ 0) (hri : rightT (itemT t) = true) :
    mkV s wr env dfl v t = if (mkV s wr env dfl v (itemT t)).2 ≠ 0 then (val0, (mkV s wr env dfl v (itemT t)).2) else (.mk 6 0 [] [(mkV s wr env dfl v (itemT t)).1] [], 0) := by
  have hl0 := (rightT_iff.1 hr).2.1
  have hn : t.lists.toNat = (itemT t).lists.toNat + 1 := by show t.lists.toNat = (t.lists - 1).toNat + 1; omega
  have e : mkV s wr env dfl v (itemT t) = wrapR (itemT t).lists.toNat (baseMk s wr env dfl t.name v (mkM s wr env dfl v.m)) := by
    rw [mkV_eq, if_neg h8, if_neg h0, if_neg h6]
    by_cases c : (itemT t).lists ≠ 0
    · rw [if_pos ⟨hri, c⟩]; rfl
    · rw [if_neg (fun x => c x.2)]
      have hz : (itemT t).lists.toNat = 0 := by have : (itemT t).lists = 0 := by simpa using c
                                                rw [this]; rfl
      rw [hz]
      show baseMk s wr env dfl t.name v _ = _
      generalize baseMk s wr env dfl t.name v (mkM s wr env dfl v.m) = b
      obtain ⟨b1, b2⟩ := b
      unfold wrapR
      by_cases hb : b2 = 0
      · subst hb; rfl
      · simp [hb]
  rw [e, mkV_eq, if_neg h8, if_neg h0, if_neg h6, if_pos ⟨hr, hl⟩, hn]
  have hbe := baseMk_err s wr env dfl t.name v (mkM s wr env dfl v.m)
  generalize baseMk s wr env dfl t.name v (mkM s wr env dfl v.m) = b at hbe
  obtain ⟨b1, b2⟩ := b
  simp only at hbe
  unfold wrapR
  by_cases hb : b2 = 0
  · subst hb; rfl
  · have := hbe hb
    subst this
    simp [hb]
end Go.Proofs.YtmfmdehfbpkgdaaGreatDoor
namespace Go.Proofs.YtmfmdehfbpkgdaaGreatDoor
open Go Go.Av
attribute [local irreducible] HCode AOps PFn AFn Av.Step TStep
theorem cMakeVar (s : Sch) (within : Bool) (env : List Mem) (dfl : Par → VE) (v : Val) (t : Typ) (k8 : v.kind = 8) (he : env.length ≤ 68719476736) (ht : t.name.length ≤ 68719476736) :
    PFn Tryz.prog 214 [mkE s true within env, t.enc, v.enc] (VE.enc (mkV s true env dfl v t)) := by
  have hg := get v.s env (by omega)
  have hi := wIs t (by omega)
  rw [envO_getG] at hg
  rw [mkV_eq, if_pos ⟨rfl, k8⟩]
  have q8 : (v.kind == 8) = true := by simp [k8]
  refine AFn.plain (VE.closed _) (by simp [AV.closed, AV.closedL, mkE_closed, Typ.closed, Val.closed]) (AFn.eR [.cell 6 38, .tmp 7] Tryz.func214 ?_)
  cases ho : envO env v.s with
  | none =>
    rw [ho] at hg
    cases c : isT t with
    | true =>
      rw [c] at hi
      rw [if_pos rfl]
      repeat' first | refine AOps.br (d := 3) ?_ | refine AOps.br (d := 4) ?_ | refine .s1 ?_ | (refine .q ?_ ?_ <;> intro hc) | fail
      exact FinR.ret1 rfl weak_ve0
    | false =>
      rw [c] at hi
      rw [if_neg (by decide)]
      repeat' first | refine AOps.br (d := 3) ?_ | refine AOps.br (d := 4) ?_ | refine .s1 ?_ | (refine .q ?_ ?_ <;> intro hc) | fail
      exact FinR.r0
  | some x =>
    rw [ho] at hg
    dsimp only
    by_cases x0 : x.kind = 0
    · have qx : (x.kind == 0) = true := by simp [x0]
      cases c : isT t with
      | true =>
        rw [c] at hi
        rw [if_pos (show x.kind = 0 ∧ true = true from ⟨x0, rfl⟩)]
        repeat' first | refine AOps.br (d := 3) ?_ | refine AOps.br (d := 4) ?_ | refine .s1 ?_ | (refine .q ?_ ?_ <;> intro hc) | fail
        exact FinR.ret1 rfl weak_ve0
      | false =>
        rw [c] at hi
        rw [if_neg (show ¬ (x.kind = 0 ∧ false = true) by simp)]
        repeat' first | refine AOps.br (d := 3) ?_ | refine AOps.br (d := 4) ?_ | refine .s1 ?_ | (refine .q ?_ ?_ <;> intro hc) | fail
        exact FinR.r0
    · have qx : (x.kind == 0) = false := by simp [x0]
      rw [if_neg (fun h => x0 h.1)]
      repeat' first | refine AOps.br (d := 3) ?_ | refine AOps.br (d := 4) ?_ | refine .s1 ?_ | (refine .q ?_ ?_ <;> intro hc) | fail
      exact FinR.r0
theorem cMakeStep (s : Sch) (hs : s.size ≤ 68719476736) (wr within : Bool) (env : List Mem) (dfl : Par → VE) (v : Val) (t : Typ) (h8 : ¬ (wr = true ∧ v.kind = 8)) (hv : v.size ≤ 68719476736) (ht : t.name.length ≤ 68719476736) (h0 : -9223372036854775808 ≤ v.n) (h1 : v.n ≤ 9223372036854775807)
    (hlist : rightT t = true ∧ t.lists ≠ 0 → v.kind ≠ 0 → PFn Tryz.prog 228 [mkE s wr within env, (itemT t).enc, v.enc] (VE.enc (mkV s wr env dfl v t)))
    (hin : ∀ d, findO s t.name = some d → d.kind = 5 → PFn Tryz.prog 231 [mkE s wr within env, d.enc, v.enc] (VE.enc (if v.kind = 7 then inputMk s wr env dfl (mkM s wr env dfl v.m) d else (val0, 7)))) :
    PFn Tryz.prog 214 [mkE s wr within env, t.enc, v.enc] (VE.enc (mkV s wr env dfl v t)) := by
  have hi := wIs t (by omega)
  have hit := wItem t (by omega)
  have hf := dFind s t.name hs
  refine AFn.plain (VE.closed _) (by simp [AV.closed, AV.closedL, mkE_closed, Typ.closed, Val.closed]) (AFn.eR [.cell 6 38, .tmp 7] Tryz.func214 ?_)
  have hw : wr = false ∨ (wr = true ∧ (v.kind == 8) = false) := by
    cases wr with
    | false => exact .inl rfl
    | true => exact .inr ⟨rfl, by simpa using h8⟩
  by_cases k0 : v.kind = 0
  · have q0 : (v.kind == 0) = true := by simp [k0]
    rw [mkV_eq, if_neg h8, if_pos k0]
    cases c : isT t with
    | true =>
      rw [c] at hi
      rw [if_pos rfl]
      rcases hw with rfl | ⟨rfl, q8⟩
      all_goals
        refine .gob ?_
        exact FinR.ret1 rfl weak_ve0
    | false =>
      rw [c] at hi
      rw [if_neg (by decide)]
      rcases hw with rfl | ⟨rfl, q8⟩
      all_goals
        refine .gob ?_
        exact FinR.r0
  · have q0 : (v.kind == 0) = false := by simp [k0]
    unfold itemR at hit
    by_cases ci : rightT t = true ∧ t.lists ≠ 0
    · rw [if_pos ci] at hit
      have hl := hlist ci k0
      generalize mkV s wr env dfl v t = r at hl
      obtain ⟨rv, re⟩ := r
      unfold VE.enc at hl
      simp only at hl
      rcases hw with rfl | ⟨rfl, q8⟩
      all_goals
        refine .gob ?_
        exact FinR.r0
    · rw [if_neg ci] at hit
      rw [mkV_eq, if_neg h8, if_neg k0, if_neg ci]
      unfold baseMk
      unfold findR at hf
      cases hfo : findO s t.name with
      | none =>
        rw [hfo] at hf
        rcases hw with rfl | ⟨rfl, q8⟩
        all_goals
          refine .gob ?_
          exact FinR.ret1 rfl weak_ve0
      | some d =>
        rw [hfo] at hf
        dsimp only at hf ⊢
        by_cases d0 : d.kind = 0
        · have e0 : (d.kind == 0) = true := by simp [d0]
          rw [if_pos d0]
          have hsc := cScalar t.name v h0 h1
          generalize scalMk t.name v = r at hsc
          obtain ⟨rv, re⟩ := r
          unfold VE.enc at hsc
          simp only at hsc
          rcases hw with rfl | ⟨rfl, q8⟩
          all_goals
            refine .gob ?_
            exact FinR.r0
        · have e0 : (d.kind == 0) = false := by simp [d0]
          rw [if_neg d0]
          by_cases d4 : d.kind = 4
          · have e4 : (d.kind == 4) = true := by simp [d4]
            rw [if_pos d4]
            have hdl : d.parts.length ≤ 9223372036854775807 := by
              have := (findR_size (name := t.name) hs).2.1
              unfold findR at this
              rw [hfo] at this
              simp only at this
              omega
            have hen := cEnum s wr within env d v hdl
            generalize enumMk wr d v.kind v.s = r at hen
            obtain ⟨rv, re⟩ := r
            unfold VE.enc at hen
            simp only at hen
            rcases hw with rfl | ⟨rfl, q8⟩
            all_goals
              refine .gob ?_
              exact FinR.r0
          · have e4 : (d.kind == 4) = false := by simp [d4]
            rw [if_neg d4]
            by_cases d5 : d.kind = 5
            · have e5 : (d.kind == 5) = true := by simp [d5]
              rw [if_pos d5]
              have hinp := hin d hfo d5
              generalize (if v.kind = 7 then inputMk s wr env dfl (mkM s wr env dfl v.m) d else (val0, 7)) = r at hinp
              obtain ⟨rv, re⟩ := r
              unfold VE.enc at hinp
              simp only at hinp
              rcases hw with rfl | ⟨rfl, q8⟩
              all_goals
                refine .gob ?_
                exact FinR.r0
            · have e5 : (d.kind == 5) = false := by simp [d5]
              rw [if_neg d5]
              rcases hw with rfl | ⟨rfl, q8⟩
              all_goals
                refine .gob ?_
                exact FinR.ret1 rfl weak_ve0
theorem cAsked (s : Sch) (wr within : Bool) (env : List Mem) (dfl : Par → VE) (v : Val) (t : Typ) (hv : v.size ≤ 68719476736) (ht : t.name.length ≤ 68719476736)
    (hm : rightT t = true → PFn Tryz.prog 214 [mkE s wr within env, t.enc, v.enc] (VE.enc (mkV s wr env dfl v t))) :
    PFn Tryz.prog 197 [mkE s wr within env, t.enc, v.enc] (VE.enc (askV s wr env dfl t v)) := by
  have hr := wRight t (by omega)
  have hg := vGood v hv
  refine AFn.plain (VE.closed _) (by simp [AV.closed, AV.closedL, mkE_closed, Typ.closed, Val.closed]) (AFn.eR [.cell 6 38, .tmp 7] Tryz.func197 ?_)
  unfold askV
  cases c1 : rightT t with
  | false =>
    rw [c1] at hr
    rw [if_neg (by simp)]
    refine .gob ?_
    exact FinR.ret1 rfl weak_ve0
  | true =>
    rw [c1] at hr
    cases c2 : allV good v with
    | false =>
      rw [c2] at hg
      rw [if_neg (by simp)]
      refine .gob ?_
      exact FinR.ret1 rfl weak_ve0
    | true =>
      rw [c2] at hg
      rw [if_pos ⟨rfl, rfl⟩]
      have hk := hm c1
      generalize mkV s wr env dfl v t = r at hk
      obtain ⟨rv, re⟩ := r
      unfold VE.enc at hk
      simp only at hk
      refine .gob ?_
      exact FinR.r0
theorem Val.ok_parts {v : Val} (h : v.ok) : (-9223372036854775808 ≤ v.n ∧ v.n ≤ 9223372036854775807) ∧ (∀ x ∈ v.l, x.ok) ∧ ∀ x ∈ v.m, x.v.ok := by
  cases v
  rw [Val.ok] at h
  obtain ⟨h1, h2, h3, h4⟩ := h
  unfold Lit.wf IntKind.min IntKind.max at h2
  rw [Bool.and_eq_true, decide_eq_true_eq, decide_eq_true_eq] at h2
  refine ⟨⟨h2.1, h2.2⟩, fun x hx => ?_, fun x hx => ?_⟩
  · have aux : ∀ l : List Val, Val.okL l → ∀ x ∈ l, x.ok := fun l => by
      induction l with
      | nil => intro _ x hx; simp at hx
      | cons y l ih =>
        intro h x hx
        rw [Val.okL] at h
        rcases List.mem_cons.1 hx with rfl | hx
        · exact h.1
        · exact ih h.2 x hx
    exact aux _ h3 x hx
  · have aux : ∀ l : List Mem, Val.okM l → ∀ x ∈ l, x.v.ok := fun l => by
      induction l with
      | nil => intro _ x hx; simp at hx
      | cons y l ih =>
        intro h x hx
        obtain ⟨n, v⟩ := y
        rw [Val.okM] at h
        rcases List.mem_cons.1 hx with rfl | hx
        · exact h.1
        · exact ih h.2 x hx
    exact aux _ h4 x hx
def HD (s : Sch) (dfl : Par → VE) : Prop := ∀ d ∈ s.defs, ∀ p ∈ d.params, leafB s p.t.name = true → PFn Tryz.prog 197 [mkE s true false [], p.t.enc, p.d.enc] (VE.enc (dfl p))
theorem findO_in {s : Sch} {name : Str} {d : Dfn} (h : findO s name = some d) (hk : d.kind = 5) : d ∈ s.defs := by
  unfold findO at h
  split at h
  · cases h; exact absurd hk (show (0 : Int) ≠ 5 by decide)
  · exact List.mem_of_find?_eq_some h
theorem leaf_not5 {s : Sch} {name : Str} {d : Dfn} (h : findO s name = some d) (hk : d.kind = 5) : leafB s name = false := by
  unfold leafB kindB findR
  rw [h]
  simp only [Bool.true_and, decide_eq_false_iff_not]
  rw [hk]; decide
theorem cMakeBody (s : Sch) (hs : s.size ≤ 68719476736) (wr : Bool) (env : List Mem) (dfl : Par → VE) (he : env.length ≤ 68719476736) (v : Val) (t : Typ) (within : Bool) (hv : v.size ≤ 68719476736) (hok : v.ok) (ht : t.name.length ≤ 68719476736) (hc : leafB s t.name = true ∨ HD s dfl)
    (ihA : ∀ x : Val, x.size < v.size → x.ok → ∀ t : Typ, t.name.length ≤ 68719476736 → (leafB s t.name = true ∨ HD s dfl) → ∀ within : Bool, PFn Tryz.prog 214 [mkE s wr within env, t.enc, x.enc] (VE.enc (mkV s wr env dfl x t)))
    (down : rightT t = true ∧ t.lists ≠ 0 → PFn Tryz.prog 214 [mkE s wr within env, (itemT t).enc, v.enc] (VE.enc (mkV s wr env dfl v (itemT t)))) :
    PFn Tryz.prog 214 [mkE s wr within env, t.enc, v.enc] (VE.enc (mkV s wr env dfl v t)) := by
  obtain ⟨⟨r0, r1⟩, okl, okm⟩ := Val.ok_parts hok
  by_cases h8 : wr = true ∧ v.kind = 8
  · obtain ⟨rfl, k8⟩ := h8
    exact cMakeVar s within env dfl v t k8 he ht
  · refine cMakeStep s hs wr within env dfl v t h8 hv ht r0 r1 (fun ci k0 => ?_) (fun d hfo d5 => ?_)
    · by_cases k6 : v.kind = 6
      · have h := cListL s wr within env (itemT t) v (fun x => mkV s wr env dfl x (itemT t)) k6 hv (fun x hx => by
          obtain ⟨k, hk, rfl⟩ := List.getElem_of_mem hx
          exact ihA _ (Val.size_l hk) (okl _ hx) (itemT t) ht hc within)
        rw [mkV_eq, if_neg h8, if_neg k0, if_pos ci, if_pos k6, mkL_seq]
        exact h
      · rw [mkV_down h8 k0 k6 ci.1 ci.2 (rightT_item ci.1 ci.2)]
        exact cListO s wr within env (itemT t) v _ k6 (down ci)
    · have hHD : HD s dfl := hc.elim (fun h => by rw [leaf_not5 hfo d5] at h; cases h) id
      have hd := findO_in hfo d5
      have hds := Sch.dfn hd
      have hdl := d.lens
      have hml := v.m_len
      have hpn : ∀ p ∈ d.params, p.t.name.length ≤ 68719476736 := fun p hp => by have := Dfn.par hp; have := p.lens; omega
      have hM := cMembers s wr true env v.m d.params (memMk s wr true env dfl (mkM s wr env dfl v.m)) (by omega) (fun p hp => cMember s hs wr true env v.m dfl dfl p he (by omega) (hpn p hp)
        (fun x hx => by
          obtain ⟨k, hk, rfl⟩ := List.getElem_of_mem hx
          have hz := Val.size_m hk
          exact cAsked s wr true env dfl _ p.t (by omega) (hpn p hp) (fun _ => ihA _ hz (okm _ hx) p.t (hpn p hp) (.inr hHD) true))
        (fun _ hl => hl.elim (fun h => by cases h) (fun h => hHD d hd p hp h)))
      rw [← memsMk_F] at hM
      have h := cInput s wr within env d v _ he hv (by omega) (by rw [v.mv_eq]; exact hM)
      unfold inputMk
      rw [strange_eq]
      exact h
theorem cMake (s : Sch) (hs : s.size ≤ 68719476736) (wr : Bool) (env : List Mem) (dfl : Par → VE) (he : env.length ≤ 68719476736) : ∀ N : Nat, N ≤ 68719476736 → ∀ v : Val, v.size ≤ N → v.ok → ∀ (j : Nat) (t : Typ), t.lists.toNat = j → t.name.length ≤ 68719476736 → (leafB s t.name = true ∨ HD s dfl) → ∀ within : Bool,
    PFn Tryz.prog 214 [mkE s wr within env, t.enc, v.enc] (VE.enc (mkV s wr env dfl v t))
  | 0, _, v, hv => absurd hv (by have := v.size_pos; omega)
  | N + 1, hN, v, hv => by
    have ih := cMake s hs wr env dfl he N (by omega)
    intro hok j
    induction j with
    | zero =>
      intro t hj ht hc within
      exact cMakeBody s hs wr env dfl he v t within (by omega) hok ht hc (fun x hx ho u hu hcu w => ih x (by omega) ho _ u rfl hu hcu w) (fun ⟨c, h0⟩ => absurd (rightT_iff.1 c).2.1 (by omega))
    | succ j ihj =>
      intro t hj ht hc within
      exact cMakeBody s hs wr env dfl he v t within (by omega) hok ht hc (fun x hx ho u hu hcu w => ih x (by omega) ho _ u rfl hu hcu w) (fun _ => ihj (itemT t) (by show (t.lists - 1).toNat = j; omega) ht hc within)
def Sch.okD (s : Sch) : Prop := ∀ d ∈ s.defs, ∀ p ∈ d.params, p.d.ok
theorem hd_leaf (s : Sch) (hs : s.size ≤ 68719476736) (hok : s.okD) : HD s (dflLeaf s) := fun d hd p hp hl => by
  have h1 := Sch.dfn hd
  have h2 := Dfn.par hp
  have h3 := p.lens
  exact cAsked s true false [] junkD p.d p.t (by omega) (by omega) (fun _ => cMake s hs true [] junkD (by decide) 68719476736 (Nat.le_refl _) p.d (by omega) (hok d hd p hp) _ p.t rfl (by omega) (.inl hl) false)
theorem cAskedAll (s : Sch) (hs : s.size ≤ 68719476736) (hok : s.okD) (wr within : Bool) (env : List Mem) (he : env.length ≤ 68719476736) (v : Val) (t : Typ) (hv : v.size ≤ 68719476736) (hvo : v.ok) (ht : t.name.length ≤ 68719476736) :
    PFn Tryz.prog 197 [mkE s wr within env, t.enc, v.enc] (VE.enc (askV s wr env (dflLeaf s) t v)) :=
  cAsked s wr within env (dflLeaf s) v t hv ht (fun _ => cMake s hs wr env (dflLeaf s) he 68719476736 (Nat.le_refl _) v hv hvo _ t rfl ht (.inr (hd_leaf s hs hok)) within)
theorem cMembersAll (s : Sch) (hs : s.size ≤ 68719476736) (hok : s.okD) (wr : Bool) (ps : List Par) (g env : List Mem) (hps : sumSize Par.size ps ≤ 68719476736) (hpo : ∀ p ∈ ps, p.d.ok) (hg : sumSize Mem.size g ≤ 68719476736) (hgo : ∀ m ∈ g, m.v.ok) (he : env.length ≤ 68719476736) :
    PFn Tryz.prog 143 [mkE s wr false env, .slice (ps.map Par.enc) .no, .slice (g.map Mem.enc) .no] (.tup [.slice ((memsMk s wr false env (dflAll s) (mkM s wr env (dflLeaf s) g) ps).1.map Mem.enc) .no, .int .i64 (memsMk s wr false env (dflAll s) (mkM s wr env (dflLeaf s) g) ps).2]) := by
  have hpl := sumSize_length Par.size_pos ps
  have hgl := sumSize_length Mem.size_pos g
  rw [memsMk_F]
  refine cMembers s wr false env g ps _ (by omega) (fun p hp => ?_)
  have h1 := sumSize_mem (size := Par.size) hp
  have h2 := p.lens
  refine cMember s hs wr false env g (dflLeaf s) (dflAll s) p he (by omega) (by omega) (fun x hx => ?_) (fun _ _ => ?_)
  · have h3 := sumSize_mem (size := Mem.size) hx
    have h4 : x.size = x.name.length + 2 + x.v.size := rfl
    exact cAskedAll s hs hok wr false env he x.v p.t (by omega) (hgo x hx) (by omega)
  · exact cAskedAll s hs hok true false [] (by decide) p.d p.t (by omega) (hpo p hp) (by omega)
theorem coeArgs (s : Sch) (hs : s.size ≤ 68719476736) (hok : s.okD) (ps : List Par) (g env : List Mem) (hps : sumSize Par.size ps ≤ 68719476736) (hpo : ∀ p ∈ ps, p.d.ok) (hg : sumSize Mem.size g ≤ 68719476736) (hgo : ∀ m ∈ g, m.v.ok) (he : env.length ≤ 68719476736) :
    PFn Tryz.prog 110 [s.enc, .slice (ps.map Par.enc) .no, .slice (g.map Mem.enc) .no, .slice (env.map Mem.enc) .no] (.tup [.slice ((argsV s ps g env).1.map Mem.enc) .no, .int .i64 (argsV s ps g env).2]) := by
  have ha := cMembersAll s hs hok true ps g env hps hpo hg hgo he
  refine AFn.plain (by simp [AV.closed, AV.closedL, Mem.closedL]) (by simp [AV.closed, AV.closedL, Sch.closed, Par.closedL, Mem.closedL]) (AFn.en [8, 9] Tryz.func110 ?_)
  unfold argsV
  generalize memsMk s true false env (dflAll s) (mkM s true env (dflLeaf s) g) ps = r at ha
  refine .gob ?_
  exact Fin.ret2C rfl rfl (Weak.refl _)
theorem weak_fld0 {n : Str} {a : Str} {b c : Int} {t1 t2 : Tk} : Weak (.agg [.str n, .slice [] t1, .str a, .int .i64 b, .int .i64 c, .slice [] t2]) (Fld.enc ⟨n, [], ⟨a, b, c⟩, []⟩) :=
  Weak.agg (WeakL.cons (Weak.refl _) (WeakL.cons (Weak.no (WeakL.refl _)) (WeakL.cons (Weak.refl _) (WeakL.cons (Weak.refl _) (WeakL.cons (Weak.refl _) (WeakL.cons (Weak.no (WeakL.refl _)) (WeakL.refl _)))))))
theorem dField1 (x : Fld) (name : Str) : PFn Tryz.prog 142 [x.enc, .rptr (.str name)] (.bool (x.name == name)) := by
  refine AFn.plain rfl (by simp [AV.closed, AV.closedL, Fld.closed]) (AFn.en [3] Tryz.func142 ?_)
  refine .gob ?_
  exact Fin.r0
theorem fieldR_tn {s : Sch} {typ name : Str} (h : name = sTypename) (hc : compB s typ = true) : fieldR s typ name = (⟨sTypename, [], ⟨sString, 0, 1⟩, []⟩, true) := by
  unfold fieldR fieldO; rw [if_pos ⟨h, hc⟩, h]
theorem fieldR_no {s : Sch} {typ name : Str} (h : ¬ (name = sTypename ∧ compB s typ = true)) (hk : ¬ ((findR s typ).1.kind = 1 ∨ (findR s typ).1.kind = 2)) : fieldR s typ name = (zeroF, false) := by
  unfold fieldR fieldO; rw [if_neg h, if_neg hk]
theorem fieldR_in {s : Sch} {typ name : Str} (h : ¬ (name = sTypename ∧ compB s typ = true)) (hk : (findR s typ).1.kind = 1 ∨ (findR s typ).1.kind = 2) : fieldR s typ name = match fldO (findR s typ).1.fields name with | none => (zeroF, false) | some f => (f, true) := by
  unfold fieldR fieldO; (rw [if_neg h, if_pos hk]) <;> (cases fldO (findR s typ).1.fields name <;> rfl)
theorem find_kind {s : Sch} {n : Str} (h : (findR s n).2 = false) : (findR s n).1.kind = 0 := by
  unfold findR at h ⊢
  split
  · rename_i d hd; rw [hd] at h; cases h
  · rfl
theorem dField (s : Sch) (typ name : Str) (hs : s.size ≤ 68719476736) : PFn Tryz.prog 109 [s.enc, .str typ, .str name] (.tup [(fieldR s typ name).1.enc, .bool (fieldR s typ name).2]) := by
  have hC := dComposite s typ hs
  have hF := dFind s typ hs
  have hfs := (findR_size (name := typ) hs).2.2.2.1
  have h := sIndexFFld (findR s typ).1.fields 142 [.rptr (.str name)] (fun p => p.name == name) (by omega) rfl (fun x _ => dField1 x name)
  have e1 := @fieldR_tn s typ name
  have e2 := @fieldR_no s typ name
  have e3 := @fieldR_in s typ name
  have e4 := @find_kind s typ
  refine AFn.plain (by simp [AV.closed, AV.closedL, Fld.closed]) (by simp [AV.closed, AV.closedL, Sch.closed]) (AFn.eR [.cell 6 30, .tmp 7] Tryz.func109 ?_)
  by_cases c : name = sTypename ∧ compB s typ = true
  · obtain ⟨c1, c2⟩ := c
    rw [e1 c1 c2]
    subst c1
    rw [c2] at hC
    have q1 : (sTypename == [95, 95, 116, 121, 112, 101, 110, 97, 109, 101]) = true := by decide
    refine .gob ?_
    refine FinR.ret1 rfl ?_
    exact Weak.tup (WeakL.cons weak_fld0 (WeakL.refl _))
  · have hn : (name == [95, 95, 116, 121, 112, 101, 110, 97, 109, 101]) = true → compB s typ = false := fun hx => by
      have : name = sTypename := by unfold sTypename; simpa using hx
      cases hcc : compB s typ with
      | false => rfl
      | true => exact absurd ⟨this, hcc⟩ c
    by_cases k : (findR s typ).1.kind = 1 ∨ (findR s typ).1.kind = 2
    · rw [e3 c k]
      have hok : (findR s typ).2 = true := by
        cases ho : (findR s typ).2 with
        | true => rfl
        | false => have := e4 ho; omega
      have kk : ((findR s typ).1.kind != 1) = true → ((findR s typ).1.kind != 2) = false := fun hx => by
        rcases k with k | k
        · rw [k] at hx; cases hx
        · rw [k]; rfl
      generalize findR s typ = r at *
      obtain ⟨d, ok⟩ := r
      dsimp only at *
      subst hok
      rcases idxFrom_spec (fun p : Fld => p.name == name) d.fields 0 with ⟨h1, h2⟩ | ⟨j, hj, h1, h2⟩
      · rw [h1] at h
        have e5 : fldO d.fields name = none := h2
        rw [e5]
        cases q0 : name == [95, 95, 116, 121, 112, 101, 110, 97, 109, 101]
        · cases q1 : d.kind != 1
          · refine .gob ?_
            refine FinR.ret1 rfl ?_
            exact Weak.tup (WeakL.cons weak_fld0 (WeakL.refl _))
          · have q2 := kk q1
            refine .gob ?_
            refine FinR.ret1 rfl ?_
            exact Weak.tup (WeakL.cons weak_fld0 (WeakL.refl _))
        · rw [hn q0] at hC
          cases q1 : d.kind != 1
          · refine .gob ?_
            refine FinR.ret1 rfl ?_
            exact Weak.tup (WeakL.cons weak_fld0 (WeakL.refl _))
          · have q2 := kk q1
            refine .gob ?_
            refine FinR.ret1 rfl ?_
            exact Weak.tup (WeakL.cons weak_fld0 (WeakL.refl _))
      · rw [h1] at h
        have e5 : fldO d.fields name = some d.fields[j] := h2
        rw [e5]
        have d1 : decide (((0 + j : Nat) : Int) < 0) = false := decide_eq_false (by omega)
        have x1 : (d.fields.map Fld.enc)[0 + j]? = some d.fields[j].enc := by rw [Nat.zero_add]; exact map_get' (f := Fld.enc) hj
        cases q0 : name == [95, 95, 116, 121, 112, 101, 110, 97, 109, 101]
        · cases q1 : d.kind != 1
          · refine .gob ?_
            exact FinR.r0
          · have q2 := kk q1
            refine .gob ?_
            exact FinR.r0
        · rw [hn q0] at hC
          cases q1 : d.kind != 1
          · refine .gob ?_
            exact FinR.r0
          · have q2 := kk q1
            refine .gob ?_
            exact FinR.r0
    · rw [e2 c k]
      have k1 : ((findR s typ).1.kind != 1) = true := by rw [bne_iff_ne]; exact fun x => k (.inl x)
      have k2 : ((findR s typ).1.kind != 2) = true := by rw [bne_iff_ne]; exact fun x => k (.inr x)
      cases q0 : name == [95, 95, 116, 121, 112, 101, 110, 97, 109, 101]
      · cases ho : (findR s typ).2 <;> rw [ho] at hF
        · refine .gob ?_
          refine FinR.ret1 rfl ?_
          exact Weak.tup (WeakL.cons weak_fld0 (WeakL.refl _))
        · refine .gob ?_
          refine FinR.ret1 rfl ?_
          exact Weak.tup (WeakL.cons weak_fld0 (WeakL.refl _))
      · rw [hn q0] at hC
        cases ho : (findR s typ).2 <;> rw [ho] at hF
        · refine .gob ?_
          refine FinR.ret1 rfl ?_
          exact Weak.tup (WeakL.cons weak_fld0 (WeakL.refl _))
        · refine .gob ?_
          refine FinR.ret1 rfl ?_
          exact Weak.tup (WeakL.cons weak_fld0 (WeakL.refl _))
theorem allTs_len (s : Sch) : (allTs s).length ≤ s.size := by
  unfold allTs
  have aux : ∀ l : List Dfn, (l.flatMap fun d => d.params.map fun p => p.t.name).length ≤ sumSize Dfn.size l := fun l => by
    induction l with
    | nil => simp
    | cons d l ih =>
      rw [List.flatMap_cons, List.length_append, List.length_map]
      have := d.lens
      simp only [sumSize]
      omega
  have := aux s.defs
  unfold Sch.size
  omega
end Go.Proofs.YtmfmdehfbpkgdaaGreatDoor
