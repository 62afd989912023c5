/-
  The reference's coerce: lacks, given.
  The reference's coerce: object, made (one step).
-/
import Derived.Test.YtpidjkihngiaoaaGreatDoorGCoerceVars12
import Derived.Test.YtpidjkihngiaoaaGreatDoorGCoerceVars10
namespace Go.Proofs.YtpidjkihngiaoaaGreatDoor
open Go Go.Av
set_option maxRecDepth 100000
set_option maxHeartbeats 16000000
set_option linter.unusedVariables false
set_option linter.unusedSimpArgs false
attribute [local irreducible] HCode AOps PFn AFn Av.Step TStep

theorem rLacks (name : Str) (m env : List Mem) (lit : Bool) (y : Val) (hy : envO m name = some y) (hm : m.length ≤ 2097152) (he : env.length ≤ 2097152) : PFn Tryz.prog 154 [.str name, .slice (m.map Mem.enc) .no, .bool lit, .slice (env.map Mem.enc) .no] (.bool (!thereB lit env y)) := by
  have hg := rGetV name m (by omega)
  rw [envO_getG, hy] at hg
  have hg2 := rGetV y.s env (by omega)
  rw [envO_getG] at hg2
  refine AFn.plain rfl (by simp [AV.closed, AV.closedL, Mem.closedL]) (AFn.enter [8] Tryz.func154 rfl rfl rfl rfl rfl (by decide) ?_)
  unfold thereB
  cases ho : envO env y.s with
  | none =>
    rw [ho] at hg2
    cases lit <;> cases k8 : (y.kind == 8)
    all_goals
      repeat' first
        | refine .seq ?_ | refine .rg ?_ | refine .rd ?_ | refine .block ?_ | refine .scope ?_ | refine .skip ?_ | refine .label ?_ | refine .exit ?_ | refine .ret ?_
        | refine .ct ?_ | refine .cf ?_ | refine .cy ?_ | refine .cn ?_ | (refine .cond rfl ?_ ?_ <;> intro hc)
        | refine A.nil_seq ?_ | refine .nl ?_ | refine .dd ?_ | refine .ys ?_ | refine .no ?_ | (refine A.guard rfl ?_ ?_ <;> intro hc)
        | refine .lb ?_ | refine .ln ?_ | refine .ls ?_ | refine .pv ?_ | refine .ix ?_ | refine .pt ?_ | refine .pf ?_ | refine .bx ?_ | refine .al ?_ | refine .st ?_ | refine .ad ?_ | refine .sb ?_ | refine .mf ?_ | refine .cl ?_ | refine .cw ?_ | refine .ck ?_ | fail
      exact Fin.ret1 rfl (Weak.refl _)
  | some z =>
    rw [ho] at hg2
    cases lit <;> cases k8 : (y.kind == 8)
    all_goals
      repeat' first
        | refine .seq ?_ | refine .rg ?_ | refine .rd ?_ | refine .block ?_ | refine .scope ?_ | refine .skip ?_ | refine .label ?_ | refine .exit ?_ | refine .ret ?_
        | refine .ct ?_ | refine .cf ?_ | refine .cy ?_ | refine .cn ?_ | (refine .cond rfl ?_ ?_ <;> intro hc)
        | refine A.nil_seq ?_ | refine .nl ?_ | refine .dd ?_ | refine .ys ?_ | refine .no ?_ | (refine A.guard rfl ?_ ?_ <;> intro hc)
        | refine .lb ?_ | refine .ln ?_ | refine .ls ?_ | refine .pv ?_ | refine .ix ?_ | refine .pt ?_ | refine .pf ?_ | refine .bx ?_ | refine .al ?_ | refine .st ?_ | refine .ad ?_ | refine .sb ?_ | refine .mf ?_ | refine .cl ?_ | refine .cw ?_ | refine .ck ?_ | fail
      exact Fin.ret1 rfl (Weak.refl _)
/-- A flag is told only where there is no error. -/
def fix3 (r : R3) : R3 := (r.1, r.2.1 && decide (r.2.2 = 0), r.2.2)
theorem memsF_fix (R : Par → R3) : ∀ ps, memsF (fun p => fix3 (R p)) ps = memsF R ps
  | [] => rfl
  | p :: ps => by
    rw [memsF, memsF, memsF_fix R ps]
    by_cases c : (R p).2.2 ≠ 0
    · rw [if_pos c, if_pos (show (fix3 (R p)).2.2 ≠ 0 from c)]; rfl
    · rw [if_neg c, if_neg (show ¬ (fix3 (R p)).2.2 ≠ 0 from c)]
      have e : (fix3 (R p)).2.1 = (R p).2.1 := by unfold fix3; simp only; simp at c; simp [c]
      rw [e]; rfl
theorem fix3_eq (rv : Val) (re : Int) : M3.enc (fix3 (rv, true, re)) = .tup [rv.enc, .bool (re == 0), .int .i64 re] := by
  unfold M3.enc fix3
  have er : (re == 0) = decide (re = 0) := by rw [Bool.eq_iff_iff]; simp
  simp only [Bool.true_and, er]
theorem rGiven (s : Sch) (lit within hb : Bool) (env g : List Mem) (dfl D : Par → VE) (p : Par) (he : env.length ≤ 2097152) (hgl : g.length ≤ 2097152) (hp : p.t.name.length ≤ 2097152) (hhb : hb = (p.has && (!within || leafB s p.t.name)))
    (hL : lit = true → ∀ x ∈ g, PFn Tryz.prog 106 [s.enc, p.t.enc, x.v.enc, .slice (env.map Mem.enc) .no] (VE.enc (askV s lit env dfl p.t x.v)))
    (hI : lit = false → ∀ x ∈ g, PFn Tryz.prog 20 [s.enc, p.t.enc, x.v.enc] (VE.enc (askV s lit env dfl p.t x.v)))
    (hD : p.has = true → (within = false ∨ leafB s p.t.name = true) → PFn Tryz.prog 106 [s.enc, p.t.enc, p.d.enc, .slice [] .no] (VE.enc (D p))) :
    PFn Tryz.prog 60 [s.enc, p.t.enc, (getG p.name g).1.enc, .bool (getG p.name g).2, .bool hb, p.d.enc, .bool lit, .slice (env.map Mem.enc) .no] (M3.enc (fix3 (memMk s lit within env D (mkM s lit env dfl g) p))) := by
  have hi := rIs p.t (by omega)
  have hcl : AV.closedL [s.enc, p.t.enc, (getG p.name g).1.enc, .bool (getG p.name g).2, .bool hb, p.d.enc, .bool lit, .slice (env.map Mem.enc) .no] = true := by simp [AV.closed, AV.closedL, Sch.closed, Typ.closed, Val.closed, Mem.closedL]
  have hbT : hb = true → p.has = true ∧ (within = false ∨ leafB s p.t.name = true) := fun h => by
    rw [hhb] at h
    simp only [Bool.and_eq_true, Bool.or_eq_true, Bool.not_eq_true'] at h
    exact h
  have hbF : hb = false → ¬ (p.has = true ∧ (within = false ∨ leafB s p.t.name = true)) := fun h h2 => by
    have : (p.has && (!within || leafB s p.t.name)) = true := by simp only [Bool.and_eq_true, Bool.or_eq_true, Bool.not_eq_true']; exact h2
    rw [← hhb, h] at this
    cases this
  refine AFn.plain (M3.closed _) hcl (AFn.enterR [.cell 16 30, .tmp 17, .tmp 18] Tryz.func60 rfl rfl rfl rfl rfl ?_)
  rw [envO_getG]
  have none_case : ∀ {K : Prop}, True := fun {K} => trivial
  cases ho : envO g p.name with
  | none =>
    rw [memMk_none ho]
    unfold memD
    cases hbb : hb with
    | true =>
      obtain ⟨b1, b2⟩ := hbT hbb
      rw [if_pos ⟨b1, b2⟩]
      have hd := hD b1 b2
      generalize D p = r at hd
      obtain ⟨rv, re⟩ := r
      unfold VE.enc at hd
      simp only at hd
      rw [fix3_eq]
      repeat' first
        | refine .br ?_
        | refine .seq ?_ | refine .rg ?_ | refine .rd ?_ | refine .block ?_ | refine .scope ?_ | refine .skip ?_ | refine .label ?_ | refine .exit ?_ | refine .ret ?_
        | refine .ct ?_ | refine .cf ?_ | refine .cy ?_ | refine .cn ?_ | (refine .cond rfl ?_ ?_ <;> intro hc)
        | refine A.nil_seq ?_ | refine .nl ?_ | refine .dd ?_ | refine .ys ?_ | refine .no ?_ | (refine A.guard rfl ?_ ?_ <;> intro hc)
        | refine .lb ?_ | refine .ln ?_ | refine .ls ?_ | refine .pv ?_ | refine .ix ?_ | refine .pt ?_ | refine .pf ?_ | refine .bx ?_ | refine .al ?_ | refine .st ?_ | refine .ad ?_ | refine .sb ?_ | refine .mf ?_ | refine .cl ?_ | refine .cw ?_ | refine .ck ?_
        | refine A.call rfl hd (WeakL.cons (Weak.refl _) (WeakL.cons (Weak.refl _) (WeakL.cons (Weak.refl _) (WeakL.cons (Weak.no (WeakL.refl _)) (WeakL.refl _))))) ?_ | fail
      exact FinR.ret1 rfl (Weak.refl _)
    | false =>
      rw [if_neg (hbF hbb)]
      cases b4 : isT p.t <;> rw [b4] at hi
      all_goals
        repeat' first
          | refine .br ?_
          | refine .seq ?_ | refine .rg ?_ | refine .rd ?_ | refine .block ?_ | refine .scope ?_ | refine .skip ?_ | refine .label ?_ | refine .exit ?_ | refine .ret ?_
          | refine .ct ?_ | refine .cf ?_ | refine .cy ?_ | refine .cn ?_ | (refine .cond rfl ?_ ?_ <;> intro hc)
          | refine A.nil_seq ?_ | refine .nl ?_ | refine .dd ?_ | refine .ys ?_ | refine .no ?_ | (refine A.guard rfl ?_ ?_ <;> intro hc)
          | refine .lb ?_ | refine .ln ?_ | refine .ls ?_ | refine .pv ?_ | refine .ix ?_ | refine .pt ?_ | refine .pf ?_ | refine .bx ?_ | refine .al ?_ | refine .st ?_ | refine .ad ?_ | refine .sb ?_ | refine .mf ?_ | refine .cl ?_ | refine .cw ?_ | refine .ck ?_ | fail
        exact FinR.ret1 rfl weak_m0
  | some x =>
    rw [memMk_some ho]
    have hx : ∃ m ∈ g, m.v = x := by
      unfold envO at ho
      rw [Option.map_eq_some_iff] at ho
      obtain ⟨m, h1, h2⟩ := ho
      exact ⟨m, List.mem_of_find?_eq_some h1, h2⟩
    obtain ⟨m, hm, rfl⟩ := hx
    have hg2 := rGetV m.v.s env (by omega)
    rw [envO_getG] at hg2
    cases lit with
    | false =>
      have ht : thereB false env m.v = true := by unfold thereB; simp
      rw [if_pos ht]
      have ha := hI rfl m hm
      generalize askV s false env dfl p.t m.v = r at ha
      obtain ⟨rv, re⟩ := r
      unfold VE.enc at ha
      simp only at ha
      rw [fix3_eq]
      repeat' first
        | refine .br ?_
        | refine .seq ?_ | refine .rg ?_ | refine .rd ?_ | refine .block ?_ | refine .scope ?_ | refine .skip ?_ | refine .label ?_ | refine .exit ?_ | refine .ret ?_
        | refine .ct ?_ | refine .cf ?_ | refine .cy ?_ | refine .cn ?_ | (refine .cond rfl ?_ ?_ <;> intro hc)
        | refine A.nil_seq ?_ | refine .nl ?_ | refine .dd ?_ | refine .ys ?_ | refine .no ?_ | (refine A.guard rfl ?_ ?_ <;> intro hc)
        | refine .lb ?_ | refine .ln ?_ | refine .ls ?_ | refine .pv ?_ | refine .ix ?_ | refine .pt ?_ | refine .pf ?_ | refine .bx ?_ | refine .al ?_ | refine .st ?_ | refine .ad ?_ | refine .sb ?_ | refine .mf ?_ | refine .cl ?_ | refine .cw ?_ | refine .ck ?_ | fail
      exact FinR.ret1 rfl (Weak.refl _)
    | true =>
      have ha := hL rfl m hm
      cases k8 : (m.v.kind == 8) with
      | false =>
        have ht : thereB true env m.v = true := by unfold thereB; rw [k8]; rfl
        rw [if_pos ht]
        generalize askV s true env dfl p.t m.v = r at ha
        obtain ⟨rv, re⟩ := r
        unfold VE.enc at ha
        simp only at ha
        rw [fix3_eq]
        repeat' first
          | refine .br ?_
          | refine .seq ?_ | refine .rg ?_ | refine .rd ?_ | refine .block ?_ | refine .scope ?_ | refine .skip ?_ | refine .label ?_ | refine .exit ?_ | refine .ret ?_
          | refine .ct ?_ | refine .cf ?_ | refine .cy ?_ | refine .cn ?_ | (refine .cond rfl ?_ ?_ <;> intro hc)
          | refine A.nil_seq ?_ | refine .nl ?_ | refine .dd ?_ | refine .ys ?_ | refine .no ?_ | (refine A.guard rfl ?_ ?_ <;> intro hc)
          | refine .lb ?_ | refine .ln ?_ | refine .ls ?_ | refine .pv ?_ | refine .ix ?_ | refine .pt ?_ | refine .pf ?_ | refine .bx ?_ | refine .al ?_ | refine .st ?_ | refine .ad ?_ | refine .sb ?_ | refine .mf ?_ | refine .cl ?_ | refine .cw ?_ | refine .ck ?_ | fail
        exact FinR.ret1 rfl (Weak.refl _)
      | true =>
        cases ho2 : envO env m.v.s with
        | some y =>
          have ht : thereB true env m.v = true := by unfold thereB; rw [k8, ho2]; rfl
          rw [if_pos ht]
          rw [ho2] at hg2
          generalize askV s true env dfl p.t m.v = r at ha
          obtain ⟨rv, re⟩ := r
          unfold VE.enc at ha
          simp only at ha
          rw [fix3_eq]
          repeat' first
            | refine .br ?_
            | refine .seq ?_ | refine .rg ?_ | refine .rd ?_ | refine .block ?_ | refine .scope ?_ | refine .skip ?_ | refine .label ?_ | refine .exit ?_ | refine .ret ?_
            | refine .ct ?_ | refine .cf ?_ | refine .cy ?_ | refine .cn ?_ | (refine .cond rfl ?_ ?_ <;> intro hc)
            | refine A.nil_seq ?_ | refine .nl ?_ | refine .dd ?_ | refine .ys ?_ | refine .no ?_ | (refine A.guard rfl ?_ ?_ <;> intro hc)
            | refine .lb ?_ | refine .ln ?_ | refine .ls ?_ | refine .pv ?_ | refine .ix ?_ | refine .pt ?_ | refine .pf ?_ | refine .bx ?_ | refine .al ?_ | refine .st ?_ | refine .ad ?_ | refine .sb ?_ | refine .mf ?_ | refine .cl ?_ | refine .cw ?_ | refine .ck ?_ | fail
          exact FinR.ret1 rfl (Weak.refl _)
        | none =>
          have ht : thereB true env m.v = false := by unfold thereB; rw [k8, ho2]; rfl
          rw [if_neg (by rw [ht]; decide)]
          rw [ho2] at hg2
          unfold memD
          cases hbb : hb with
          | true =>
            obtain ⟨b1, b2⟩ := hbT hbb
            rw [if_pos ⟨b1, b2⟩]
            have hd := hD b1 b2
            generalize D p = r at hd
            obtain ⟨rv, re⟩ := r
            unfold VE.enc at hd
            simp only at hd
            rw [fix3_eq]
            repeat' first
              | refine .br ?_
              | refine .seq ?_ | refine .rg ?_ | refine .rd ?_ | refine .block ?_ | refine .scope ?_ | refine .skip ?_ | refine .label ?_ | refine .exit ?_ | refine .ret ?_
              | refine .ct ?_ | refine .cf ?_ | refine .cy ?_ | refine .cn ?_ | (refine .cond rfl ?_ ?_ <;> intro hc)
              | refine A.nil_seq ?_ | refine .nl ?_ | refine .dd ?_ | refine .ys ?_ | refine .no ?_ | (refine A.guard rfl ?_ ?_ <;> intro hc)
              | refine .lb ?_ | refine .ln ?_ | refine .ls ?_ | refine .pv ?_ | refine .ix ?_ | refine .pt ?_ | refine .pf ?_ | refine .bx ?_ | refine .al ?_ | refine .st ?_ | refine .ad ?_ | refine .sb ?_ | refine .mf ?_ | refine .cl ?_ | refine .cw ?_ | refine .ck ?_
              | refine A.call rfl hd (WeakL.cons (Weak.refl _) (WeakL.cons (Weak.refl _) (WeakL.cons (Weak.refl _) (WeakL.cons (Weak.no (WeakL.refl _)) (WeakL.refl _))))) ?_ | fail
            exact FinR.ret1 rfl (Weak.refl _)
          | false =>
            rw [if_neg (hbF hbb)]
            cases b4 : isT p.t <;> rw [b4] at hi
            all_goals
              repeat' first
                | refine .br ?_
                | refine .seq ?_ | refine .rg ?_ | refine .rd ?_ | refine .block ?_ | refine .scope ?_ | refine .skip ?_ | refine .label ?_ | refine .exit ?_ | refine .ret ?_
                | refine .ct ?_ | refine .cf ?_ | refine .cy ?_ | refine .cn ?_ | (refine .cond rfl ?_ ?_ <;> intro hc)
                | refine A.nil_seq ?_ | refine .nl ?_ | refine .dd ?_ | refine .ys ?_ | refine .no ?_ | (refine A.guard rfl ?_ ?_ <;> intro hc)
                | refine .lb ?_ | refine .ln ?_ | refine .ls ?_ | refine .pv ?_ | refine .ix ?_ | refine .pt ?_ | refine .pf ?_ | refine .bx ?_ | refine .al ?_ | refine .st ?_ | refine .ad ?_ | refine .sb ?_ | refine .mf ?_ | refine .cl ?_ | refine .cw ?_ | refine .ck ?_ | fail
              exact FinR.ret1 rfl weak_m0
end Go.Proofs.YtpidjkihngiaoaaGreatDoor
namespace Go.Proofs.YtpidjkihngiaoaaGreatDoor
open Go Go.Av
set_option maxRecDepth 100000
set_option maxHeartbeats 16000000
set_option linter.unusedVariables false
set_option linter.unusedSimpArgs false
attribute [local irreducible] HCode AOps PFn AFn Av.Step TStep

theorem rIs9 (s : Sch) (name : Str) (a b c : Int) (hs : s.size ≤ 1048576) : PFn Tryz.prog 192 [s.enc, .str name, .int .i64 a, .int .i64 b, .int .i64 c] (.bool (kindB s name [a, b, c])) := by
  have hf := rFind9 s name hs
  refine AFn.plain rfl (by simp [AV.closed, AV.closedL, Sch.closed]) (AFn.enter [10] Tryz.func192 rfl rfl rfl rfl rfl (by decide) ?_)
  have e : kindB s name [a, b, c] = ((findR s name).2 && ((findR s name).1.kind == a || ((findR s name).1.kind == b || (findR s name).1.kind == c))) := by
    unfold kindB
    congr 1
    rw [Bool.eq_iff_iff, decide_eq_true_eq]
    simp
  rw [e]
  cases h1 : (findR s name).2 <;> rw [h1] at hf
  · repeat' first
      | refine .br ?_
      | refine .seq ?_ | refine .rg ?_ | refine .rd ?_ | refine .block ?_ | refine .scope ?_ | refine .skip ?_ | refine .label ?_ | refine .exit ?_ | refine .ret ?_
      | refine .ct ?_ | refine .cf ?_ | refine .cy ?_ | refine .cn ?_ | (refine .cond rfl ?_ ?_ <;> intro hc)
      | refine A.nil_seq ?_ | refine .nl ?_ | refine .dd ?_ | refine .ys ?_ | refine .no ?_ | (refine A.guard rfl ?_ ?_ <;> intro hc)
      | refine .lb ?_ | refine .ln ?_ | refine .ls ?_ | refine .pv ?_ | refine .ix ?_ | refine .pt ?_ | refine .pf ?_ | refine .bx ?_ | refine .al ?_ | refine .st ?_ | refine .ad ?_ | refine .sb ?_ | refine .mf ?_ | refine .cl ?_ | refine .cw ?_ | refine .ck ?_ | fail
    exact Fin.ret1 rfl (Weak.refl _)
  · cases h2 : ((findR s name).1.kind == a) <;> cases h3 : ((findR s name).1.kind == b) <;> cases h4 : ((findR s name).1.kind == c)
    all_goals
      repeat' first
        | refine .br ?_
        | refine .seq ?_ | refine .rg ?_ | refine .rd ?_ | refine .block ?_ | refine .scope ?_ | refine .skip ?_ | refine .label ?_ | refine .exit ?_ | refine .ret ?_
        | refine .ct ?_ | refine .cf ?_ | refine .cy ?_ | refine .cn ?_ | (refine .cond rfl ?_ ?_ <;> intro hc)
        | refine A.nil_seq ?_ | refine .nl ?_ | refine .dd ?_ | refine .ys ?_ | refine .no ?_ | (refine A.guard rfl ?_ ?_ <;> intro hc)
        | refine .lb ?_ | refine .ln ?_ | refine .ls ?_ | refine .pv ?_ | refine .ix ?_ | refine .pt ?_ | refine .pf ?_ | refine .bx ?_ | refine .al ?_ | refine .st ?_ | refine .ad ?_ | refine .sb ?_ | refine .mf ?_ | refine .cl ?_ | refine .cw ?_ | refine .ck ?_ | fail
      exact Fin.ret1 rfl (Weak.eq (congrArg AV.bool (by simp_all)))
theorem rLeaf9 (s : Sch) (name : Str) (hs : s.size ≤ 1048576) : PFn Tryz.prog 138 [s.enc, .str name] (.bool (leafB s name)) := by
  have h := rIs9 s name 0 4 4 hs
  have e : kindB s name [0, 4, 4] = leafB s name := by unfold leafB kindB; congr 1; rw [Bool.eq_iff_iff, decide_eq_true_eq, decide_eq_true_eq]; simp
  rw [e] at h
  refine AFn.plain rfl (by simp [AV.closed, AV.closedL, Sch.closed]) (AFn.enter [4] Tryz.func138 rfl rfl rfl rfl rfl (by decide) ?_)
  repeat' first
    | refine .br ?_
    | refine .seq ?_ | refine .rg ?_ | refine .rd ?_ | refine .block ?_ | refine .scope ?_ | refine .skip ?_ | refine .label ?_ | refine .exit ?_ | refine .ret ?_
    | refine .ct ?_ | refine .cf ?_ | refine .cy ?_ | refine .cn ?_ | (refine .cond rfl ?_ ?_ <;> intro hc)
    | refine A.nil_seq ?_ | refine .nl ?_ | refine .dd ?_ | refine .ys ?_ | refine .no ?_ | (refine A.guard rfl ?_ ?_ <;> intro hc)
    | refine .lb ?_ | refine .ln ?_ | refine .ls ?_ | refine .pv ?_ | refine .ix ?_ | refine .pt ?_ | refine .pf ?_ | refine .bx ?_ | refine .al ?_ | refine .st ?_ | refine .ad ?_ | refine .sb ?_ | refine .mf ?_ | refine .cl ?_ | refine .cw ?_ | refine .ck ?_ | fail
  exact Fin.ret1 rfl (Weak.refl _)
theorem rObject (s : Sch) (hs : s.size ≤ 1048576) (lit : Bool) (env m : List Mem) (ps : List Par) (R : Par → R3) (he : env.length ≤ 2097152) (hm : m.length ≤ 2097152) (hps : ps.length ≤ 2097152)
    (hG : ∀ p ∈ ps, PFn Tryz.prog 60 [s.enc, p.t.enc, (getG p.name m).1.enc, .bool (getG p.name m).2, .bool (p.has && leafB s p.t.name), p.d.enc, .bool lit, .slice (env.map Mem.enc) .no] (M3.enc (fix3 (R p)))) :
    PFn Tryz.prog 104 [s.enc, .slice (ps.map Par.enc) .no, .slice (m.map Mem.enc) .no, .bool lit, .slice (env.map Mem.enc) .no] (VE.enc (if m.any (strangeP lit env m ps) = true then (val0, 6) else if (memsF R ps).2 ≠ 0 then (val0, (memsF R ps).2) else (.mk 7 0 [] [] (memsF R ps).1, 0))) := by
  refine AFn.plain (VE.closed _) (by simp [AV.closed, AV.closedL, Sch.closed, Par.closedL, Mem.closedL]) (AFn.enterR [.cell 10 30, .tmp 11] Tryz.func104 rfl rfl rfl rfl rfl ?_)
  repeat' first
    | refine .br ?_
    | refine .seq ?_ | refine .rg ?_ | refine .rd ?_ | refine .block ?_ | refine .scope ?_ | refine .skip ?_ | refine .label ?_ | refine .exit ?_ | refine .ret ?_
    | refine .ct ?_ | refine .cf ?_ | refine .cy ?_ | refine .cn ?_ | (refine .cond rfl ?_ ?_ <;> intro hc)
    | refine A.nil_seq ?_ | refine .nl ?_ | refine .dd ?_ | refine .ys ?_ | refine .no ?_ | (refine A.guard rfl ?_ ?_ <;> intro hc)
    | refine .lb ?_ | refine .ln ?_ | refine .ls ?_ | refine .pv ?_ | refine .ix ?_ | refine .pt ?_ | refine .pf ?_ | refine .bx ?_ | refine .al ?_ | refine .st ?_ | refine .ad ?_ | refine .sb ?_ | refine .mf ?_ | refine .cl ?_ | refine .cw ?_ | refine .ck ?_ | fail
  refine HCode.forK m.length (fun k => [(12, .int .i64 k), (1, .slice (ps.map Par.enc) .no), (2, .slice (m.map Mem.enc) .no), (3, .bool lit), (4, .slice (env.map Mem.enc) .no), (5, .rptr s.enc), (10, .ptr 0 0)])
    (fun _ => ⟨[.cells zeroV], []⟩) (fun k => (m.take k).any (strangeP lit env m ps) = false) ⟨rfl, rfl, rfl, rfl, rfl, rfl, rfl, trivial⟩ rfl (by rw [List.take_zero]; rfl) fun k hk hj => ?_
  by_cases h1 : k < m.length
  · have d1 : decide ((k : Int) < (m.length : Int)) = true := by simp [h1]
    have x1 := map_get' (f := Mem.enc) h1
    have hmem := List.getElem_mem h1
    have hpar := rParam9 ps m[k].name hps
    obtain ⟨y, hy⟩ := envO_mem hmem
    have hla := rLacks m[k].name m env lit y hy hm he
    have hst : strangeP lit env m ps m[k] = ((parO ps m[k].name).isNone && thereB lit env y) := by unfold strangeP; rw [hy]
    have htk : (m.take (k + 1)).any (strangeP lit env m ps) = strangeP lit env m ps m[k] := by
      rw [List.take_succ_eq_append_getElem h1, List.any_append, hj]; simp
    cases hpo : parO ps m[k].name with
    | none =>
      have e1 : parR ps m[k].name = (zeroP, false) := by rw [parR, hpo]
      rw [e1] at hpar
      rw [hpo] at hst
      cases c : thereB lit env y with
      | true =>
        rw [c] at hla hst
        have hany : m.any (strangeP lit env m ps) = true := List.any_eq_true.2 ⟨_, hmem, hst⟩
        rw [if_pos hany]
        repeat' first
          | refine .seq ?_ | refine .rg ?_ | refine .rd ?_ | refine .block ?_ | refine .scope ?_ | refine .skip ?_ | refine .label ?_ | refine .exit ?_ | refine .ret ?_
          | refine .ct ?_ | refine .cf ?_ | refine .cy ?_ | refine .cn ?_ | (refine .cond rfl ?_ ?_ <;> intro hc)
          | refine A.nil_seq ?_ | refine .nl ?_ | refine .dd ?_ | refine .ys ?_ | refine .no ?_ | (refine A.guard rfl ?_ ?_ <;> intro hc)
          | refine .lb ?_ | refine .ln ?_ | refine .ls ?_ | refine .pv ?_ | refine .ix ?_ | refine .pt ?_ | refine .pf ?_ | refine .bx ?_ | refine .al ?_ | refine .st ?_ | refine .ad ?_ | refine .sb ?_ | refine .mf ?_ | refine .cl ?_ | refine .cw ?_ | refine .ck ?_ | fail
        exact FinR.ret1 rfl weak_ve0
      | false =>
        rw [c] at hla hst
        repeat' first
          | refine .seq ?_ | refine .rg ?_ | refine .rd ?_ | refine .block ?_ | refine .scope ?_ | refine .skip ?_ | refine .label ?_ | refine .exit ?_ | refine .ret ?_
          | refine .ct ?_ | refine .cf ?_ | refine .cy ?_ | refine .cn ?_ | (refine .cond rfl ?_ ?_ <;> intro hc)
          | refine A.nil_seq ?_ | refine .nl ?_ | refine .dd ?_ | refine .ys ?_ | refine .no ?_ | (refine A.guard rfl ?_ ?_ <;> intro hc)
          | refine .lb ?_ | refine .ln ?_ | refine .ls ?_ | refine .pv ?_ | refine .ix ?_ | refine .pt ?_ | refine .pf ?_ | refine .bx ?_ | refine .al ?_ | refine .st ?_ | refine .ad ?_ | refine .sb ?_ | refine .mf ?_ | refine .cl ?_ | refine .cw ?_ | refine .ck ?_ | fail
        exact ⟨h1, ⟨rfl, rfl, rfl, rfl, rfl, rfl, rfl, trivial⟩, by simp [belowS, AV.low], by simp [belowB, belowT, Ob.low, Tok.low, AV.lowL, AV.low, zeroV], rfl, htk.trans hst⟩
    | some p =>
      have e1 : parR ps m[k].name = (p, true) := by rw [parR, hpo]
      rw [e1] at hpar
      rw [hpo] at hst
      repeat' first
        | refine .seq ?_ | refine .rg ?_ | refine .rd ?_ | refine .block ?_ | refine .scope ?_ | refine .skip ?_ | refine .label ?_ | refine .exit ?_ | refine .ret ?_
        | refine .ct ?_ | refine .cf ?_ | refine .cy ?_ | refine .cn ?_ | (refine .cond rfl ?_ ?_ <;> intro hc)
        | refine A.nil_seq ?_ | refine .nl ?_ | refine .dd ?_ | refine .ys ?_ | refine .no ?_ | (refine A.guard rfl ?_ ?_ <;> intro hc)
        | refine .lb ?_ | refine .ln ?_ | refine .ls ?_ | refine .pv ?_ | refine .ix ?_ | refine .pt ?_ | refine .pf ?_ | refine .bx ?_ | refine .al ?_ | refine .st ?_ | refine .ad ?_ | refine .sb ?_ | refine .mf ?_ | refine .cl ?_ | refine .cw ?_ | refine .ck ?_ | fail
      exact ⟨h1, ⟨rfl, rfl, rfl, rfl, rfl, rfl, rfl, trivial⟩, by simp [belowS, AV.low], by simp [belowB, belowT, Ob.low, Tok.low, AV.lowL, AV.low, zeroV], rfl, htk.trans hst⟩
  · have d1 : decide ((k : Int) < (m.length : Int)) = false := by simp; omega
    obtain rfl : k = m.length := by omega
    rw [List.take_length] at hj
    rw [if_neg (by rw [hj]; decide)]
    repeat' first
      | refine .seq ?_ | refine .rg ?_ | refine .rd ?_ | refine .block ?_ | refine .scope ?_ | refine .skip ?_ | refine .label ?_ | refine .exit ?_ | refine .ret ?_
      | refine .ct ?_ | refine .cf ?_ | refine .cy ?_ | refine .cn ?_ | (refine .cond rfl ?_ ?_ <;> intro hc)
      | refine A.nil_seq ?_ | refine .nl ?_ | refine .dd ?_ | refine .ys ?_ | refine .no ?_ | (refine A.guard rfl ?_ ?_ <;> intro hc)
      | refine .lb ?_ | refine .ln ?_ | refine .ls ?_ | refine .pv ?_ | refine .ix ?_ | refine .pt ?_ | refine .pf ?_ | refine .bx ?_ | refine .al ?_ | refine .st ?_ | refine .ad ?_ | refine .sb ?_ | refine .mf ?_ | refine .cl ?_ | refine .cw ?_ | refine .ck ?_ | fail
    refine HCode.adoptB 1 4 true 6 rfl rfl rfl rfl rfl rfl rfl rfl ?_
    refine HCode.forK ps.length (fun k => [(16, .int .i64 k), (1, .slice (ps.map Par.enc) .no), (2, .slice (m.map Mem.enc) .no), (3, .bool lit), (4, .slice (env.map Mem.enc) .no), (5, .rptr s.enc), (10, .ptr 0 0), (15, .ptr 1 0)])
      (fun k => ⟨[.cells zeroV, .cells [.int .i64 7, .int .i64 0, .str [], .slice [] .nil, .slice ((memsA R (ps.take k)).map Mem.enc) (.own 0 6)]], [.len (memsA R (ps.take k)).length]⟩) (memsJ R ps)
      ⟨rfl, rfl, rfl, rfl, rfl, rfl, rfl, rfl, trivial⟩ rfl (memsJ_zero R ps) fun k hk hj2 => ?_
    by_cases h2 : k < ps.length
    · have d2 : decide ((k : Int) < (ps.length : Int)) = true := by simp [h2]
      have x2 := map_get' (f := Par.enc) h2
      have hg := rGetV ps[k].name m (by omega)
      have hgv := hG ps[k] (List.getElem_mem h2)
      have hlf := rLeaf9 s ps[k].t.name hs
      have je := memsJ_err h2 hj2
      have jn := memsJ_next h2 hj2
      have hla := memsA_len R (ps.take k)
      rw [List.length_take] at hla
      have htk : memsA R (ps.take (k + 1)) = memsA R (ps.take k) ++ (if (R ps[k]).2.1 = true then [.mk ps[k].name (R ps[k]).1] else []) := by
        rw [List.take_succ_eq_append_getElem h2, memsA_app, memsA, memsA, List.append_nil]
      generalize R ps[k] = r at hgv je jn htk
      obtain ⟨rv, rb, re⟩ := r
      unfold M3.enc fix3 at hgv
      simp only at hgv je jn htk
      generalize getG ps[k].name m = gv at hg hgv
      cases hbb : ps[k].has with
      | true =>
        rw [hbb, Bool.true_and] at hgv
        by_cases er : re = 0
        · subst er
          have jn' := jn rfl
          simp only [decide_true, Bool.and_true] at hgv
          cases rb with
          | true =>
            rw [if_pos rfl] at htk
            repeat' first
              | refine A.allocv (d := 17) rfl rfl rfl rfl rfl ?_ | refine HCode.turn 17 rfl (Turn.freezeP rfl rfl rfl rfl) ?_
              | refine .seq ?_ | refine .rg ?_ | refine .rd ?_ | refine .block ?_ | refine .scope ?_ | refine .skip ?_ | refine .label ?_ | refine .exit ?_ | refine .ret ?_
              | refine .ct ?_ | refine .cf ?_ | refine .cy ?_ | refine .cn ?_ | (refine .cond rfl ?_ ?_ <;> intro hc)
              | refine A.nil_seq ?_ | refine .nl ?_ | refine .dd ?_ | refine .ys ?_ | refine .no ?_ | (refine A.guard rfl ?_ ?_ <;> intro hc)
              | refine .lb ?_ | refine .ln ?_ | refine .ls ?_ | refine .pv ?_ | refine .ix ?_ | refine .pt ?_ | refine .pf ?_ | refine .bx ?_ | refine .al ?_ | refine .st ?_ | refine .ad ?_ | refine .sb ?_ | refine .mf ?_ | refine .cl ?_ | refine .cw ?_ | refine .ck ?_
              | refine A.vstore (agg := true) rfl rfl rfl rfl rfl rfl rfl rfl rfl rfl rfl ?_ | refine A.append (n := (memsA R (ps.take k)).length) rfl rfl rfl rfl rfl rfl rfl rfl (List.length_map ..) rfl (by dsimp only [List.length_cons, List.length_nil]; omega) (by dsimp only [List.length_cons, List.length_nil]; omega) rfl ?_ | fail
            exact ⟨h2, ⟨rfl, rfl, rfl, rfl, rfl, rfl, rfl, rfl, trivial⟩, by simp [belowS, AV.low], by simp [belowB, belowT, Ob.low, Tok.low, AV.lowL, AV.low, zeroV, lowL_appC], by rw [htk, List.map_append, List.length_append]; rfl, jn'⟩
          | false =>
            rw [if_neg (by decide), List.append_nil] at htk
            repeat' first
              | refine A.allocv (d := 17) rfl rfl rfl rfl rfl ?_ | refine HCode.turn 17 rfl (Turn.freezeP rfl rfl rfl rfl) ?_
              | refine .seq ?_ | refine .rg ?_ | refine .rd ?_ | refine .block ?_ | refine .scope ?_ | refine .skip ?_ | refine .label ?_ | refine .exit ?_ | refine .ret ?_
              | refine .ct ?_ | refine .cf ?_ | refine .cy ?_ | refine .cn ?_ | (refine .cond rfl ?_ ?_ <;> intro hc)
              | refine A.nil_seq ?_ | refine .nl ?_ | refine .dd ?_ | refine .ys ?_ | refine .no ?_ | (refine A.guard rfl ?_ ?_ <;> intro hc)
              | refine .lb ?_ | refine .ln ?_ | refine .ls ?_ | refine .pv ?_ | refine .ix ?_ | refine .pt ?_ | refine .pf ?_ | refine .bx ?_ | refine .al ?_ | refine .st ?_ | refine .ad ?_ | refine .sb ?_ | refine .mf ?_ | refine .cl ?_ | refine .cw ?_ | refine .ck ?_
              | refine A.vstore (agg := true) rfl rfl rfl rfl rfl rfl rfl rfl rfl rfl rfl ?_ | fail
            exact ⟨h2, ⟨rfl, rfl, rfl, rfl, rfl, rfl, rfl, rfl, trivial⟩, by simp [belowS, AV.low], by simp [belowB, belowT, Ob.low, Tok.low, AV.lowL, AV.low, zeroV], by rw [htk]; rfl, jn'⟩
        · have er' : (re != 0) = true := by simpa using er
          rw [je er, if_pos er]
          repeat' first
            | refine A.allocv (d := 17) rfl rfl rfl rfl rfl ?_ | refine HCode.turn 17 rfl (Turn.freezeP rfl rfl rfl rfl) ?_
            | refine .seq ?_ | refine .rg ?_ | refine .rd ?_ | refine .block ?_ | refine .scope ?_ | refine .skip ?_ | refine .label ?_ | refine .exit ?_ | refine .ret ?_
            | refine .ct ?_ | refine .cf ?_ | refine .cy ?_ | refine .cn ?_ | (refine .cond rfl ?_ ?_ <;> intro hc)
            | refine A.nil_seq ?_ | refine .nl ?_ | refine .dd ?_ | refine .ys ?_ | refine .no ?_ | (refine A.guard rfl ?_ ?_ <;> intro hc)
            | refine .lb ?_ | refine .ln ?_ | refine .ls ?_ | refine .pv ?_ | refine .ix ?_ | refine .pt ?_ | refine .pf ?_ | refine .bx ?_ | refine .al ?_ | refine .st ?_ | refine .ad ?_ | refine .sb ?_ | refine .mf ?_ | refine .cl ?_ | refine .cw ?_ | refine .ck ?_
            | refine A.vstore (agg := true) rfl rfl rfl rfl rfl rfl rfl rfl rfl rfl rfl ?_ | fail
          exact FinR.ret1 rfl weak_ve0
      | false =>
        rw [hbb, Bool.false_and] at hgv
        by_cases er : re = 0
        · subst er
          have jn' := jn rfl
          simp only [decide_true, Bool.and_true] at hgv
          cases rb with
          | true =>
            rw [if_pos rfl] at htk
            repeat' first
              | refine A.allocv (d := 17) rfl rfl rfl rfl rfl ?_ | refine HCode.turn 17 rfl (Turn.freezeP rfl rfl rfl rfl) ?_
              | refine .seq ?_ | refine .rg ?_ | refine .rd ?_ | refine .block ?_ | refine .scope ?_ | refine .skip ?_ | refine .label ?_ | refine .exit ?_ | refine .ret ?_
              | refine .ct ?_ | refine .cf ?_ | refine .cy ?_ | refine .cn ?_ | (refine .cond rfl ?_ ?_ <;> intro hc)
              | refine A.nil_seq ?_ | refine .nl ?_ | refine .dd ?_ | refine .ys ?_ | refine .no ?_ | (refine A.guard rfl ?_ ?_ <;> intro hc)
              | refine .lb ?_ | refine .ln ?_ | refine .ls ?_ | refine .pv ?_ | refine .ix ?_ | refine .pt ?_ | refine .pf ?_ | refine .bx ?_ | refine .al ?_ | refine .st ?_ | refine .ad ?_ | refine .sb ?_ | refine .mf ?_ | refine .cl ?_ | refine .cw ?_ | refine .ck ?_
              | refine A.vstore (agg := true) rfl rfl rfl rfl rfl rfl rfl rfl rfl rfl rfl ?_ | refine A.append (n := (memsA R (ps.take k)).length) rfl rfl rfl rfl rfl rfl rfl rfl (List.length_map ..) rfl (by dsimp only [List.length_cons, List.length_nil]; omega) (by dsimp only [List.length_cons, List.length_nil]; omega) rfl ?_ | fail
            exact ⟨h2, ⟨rfl, rfl, rfl, rfl, rfl, rfl, rfl, rfl, trivial⟩, by simp [belowS, AV.low], by simp [belowB, belowT, Ob.low, Tok.low, AV.lowL, AV.low, zeroV, lowL_appC], by rw [htk, List.map_append, List.length_append]; rfl, jn'⟩
          | false =>
            rw [if_neg (by decide), List.append_nil] at htk
            repeat' first
              | refine A.allocv (d := 17) rfl rfl rfl rfl rfl ?_ | refine HCode.turn 17 rfl (Turn.freezeP rfl rfl rfl rfl) ?_
              | refine .seq ?_ | refine .rg ?_ | refine .rd ?_ | refine .block ?_ | refine .scope ?_ | refine .skip ?_ | refine .label ?_ | refine .exit ?_ | refine .ret ?_
              | refine .ct ?_ | refine .cf ?_ | refine .cy ?_ | refine .cn ?_ | (refine .cond rfl ?_ ?_ <;> intro hc)
              | refine A.nil_seq ?_ | refine .nl ?_ | refine .dd ?_ | refine .ys ?_ | refine .no ?_ | (refine A.guard rfl ?_ ?_ <;> intro hc)
              | refine .lb ?_ | refine .ln ?_ | refine .ls ?_ | refine .pv ?_ | refine .ix ?_ | refine .pt ?_ | refine .pf ?_ | refine .bx ?_ | refine .al ?_ | refine .st ?_ | refine .ad ?_ | refine .sb ?_ | refine .mf ?_ | refine .cl ?_ | refine .cw ?_ | refine .ck ?_
              | refine A.vstore (agg := true) rfl rfl rfl rfl rfl rfl rfl rfl rfl rfl rfl ?_ | fail
            exact ⟨h2, ⟨rfl, rfl, rfl, rfl, rfl, rfl, rfl, rfl, trivial⟩, by simp [belowS, AV.low], by simp [belowB, belowT, Ob.low, Tok.low, AV.lowL, AV.low, zeroV], by rw [htk]; rfl, jn'⟩
        · have er' : (re != 0) = true := by simpa using er
          rw [je er, if_pos er]
          repeat' first
            | refine A.allocv (d := 17) rfl rfl rfl rfl rfl ?_ | refine HCode.turn 17 rfl (Turn.freezeP rfl rfl rfl rfl) ?_
            | refine .seq ?_ | refine .rg ?_ | refine .rd ?_ | refine .block ?_ | refine .scope ?_ | refine .skip ?_ | refine .label ?_ | refine .exit ?_ | refine .ret ?_
            | refine .ct ?_ | refine .cf ?_ | refine .cy ?_ | refine .cn ?_ | (refine .cond rfl ?_ ?_ <;> intro hc)
            | refine A.nil_seq ?_ | refine .nl ?_ | refine .dd ?_ | refine .ys ?_ | refine .no ?_ | (refine A.guard rfl ?_ ?_ <;> intro hc)
            | refine .lb ?_ | refine .ln ?_ | refine .ls ?_ | refine .pv ?_ | refine .ix ?_ | refine .pt ?_ | refine .pf ?_ | refine .bx ?_ | refine .al ?_ | refine .st ?_ | refine .ad ?_ | refine .sb ?_ | refine .mf ?_ | refine .cl ?_ | refine .cw ?_ | refine .ck ?_
            | refine A.vstore (agg := true) rfl rfl rfl rfl rfl rfl rfl rfl rfl rfl rfl ?_ | fail
          exact FinR.ret1 rfl weak_ve0
    · have d2 : decide ((k : Int) < (ps.length : Int)) = false := by simp; omega
      obtain rfl : k = ps.length := by omega
      rw [memsJ_end hj2, if_neg (by simp)]
      repeat' first
        | refine .seq ?_ | refine .rg ?_ | refine .rd ?_ | refine .block ?_ | refine .scope ?_ | refine .skip ?_ | refine .label ?_ | refine .exit ?_ | refine .ret ?_
        | refine .ct ?_ | refine .cf ?_ | refine .cy ?_ | refine .cn ?_ | (refine .cond rfl ?_ ?_ <;> intro hc)
        | refine A.nil_seq ?_ | refine .nl ?_ | refine .dd ?_ | refine .ys ?_ | refine .no ?_ | (refine A.guard rfl ?_ ?_ <;> intro hc)
        | refine .lb ?_ | refine .ln ?_ | refine .ls ?_ | refine .pv ?_ | refine .ix ?_ | refine .pt ?_ | refine .pf ?_ | refine .bx ?_ | refine .al ?_ | refine .st ?_ | refine .ad ?_ | refine .sb ?_ | refine .mf ?_ | refine .cl ?_ | refine .cw ?_ | refine .ck ?_ | fail
      refine FinR.ret1 rfl ?_
      rw [List.take_length]
      exact Weak.tup (WeakL.cons weak_inputC (WeakL.refl _))
end Go.Proofs.YtpidjkihngiaoaaGreatDoor
