/-
  The law CoerceLeft.
-/
import Derived.Test.YtpidjkihngiaoaaDoorGCoerceLeft7
namespace Go.Proofs.YtpidjkihngiaoaaDoor
open Go Go.Av
set_option maxRecDepth 100000
set_option maxHeartbeats 16000000
set_option linter.unusedVariables false
set_option linter.unusedSimpArgs false
attribute [local irreducible] HCode AOps PFn AFn Av.Step TStep

/-- Is a parameter told? -/
def inclB (args env : List Mem) (p : Par) : Bool := (match envO args p.name with | some x => thereB true env x | none => false) || p.has
theorem argsR (s : Sch) (args env : List Mem) (p : Par) : (memMk s true false env (dflAll s) (mkM s true env (dflLeaf s) args) p).2.1 = inclB args env p := by
  unfold inclB
  have hd : (memD s false (dflAll s) p).2.1 = p.has := by
    unfold memD
    cases h : p.has with
    | true => rw [if_pos ⟨rfl, .inl rfl⟩]
    | false =>
      rw [if_neg (by simp)]
      split <;> rfl
  cases ho : envO args p.name with
  | none => rw [memMk_none ho, hd]; rfl
  | some x =>
    rw [memMk_some ho]
    cases c : thereB true env x with
    | true => rw [if_pos rfl]; simp [c]
    | false => rw [if_neg (by decide), hd]; simp [c]
theorem memsA_get {R : Par → R3} {ps : List Par} {k : Nat} (h : k < ps.length) (hi : (R ps[k]).2.1 = true) : (memsA R ps)[(memsA R (ps.take k)).length]? = some (.mk ps[k].name (R ps[k]).1) := by
  have e : memsA R ps = memsA R (ps.take k) ++ memsA R (ps.drop k) := by rw [← memsA_app, List.take_append_drop]
  rw [e, List.getElem?_append_right (Nat.le_refl _), Nat.sub_self, List.drop_eq_getElem_cons h, memsA, if_pos hi]
  rfl
theorem memsF_ok {R : Par → R3} : ∀ l, (memsF R l).2 = 0 → (memsF R l).1 = memsA R l
  | [], _ => rfl
  | p :: l, h => by
    rw [memsF] at h ⊢
    by_cases c : (R p).2.2 ≠ 0
    · rw [if_pos c] at h; exact absurd h c
    · rw [if_neg c] at h ⊢
      by_cases d : (memsF R l).2 ≠ 0
      · rw [if_pos d] at h; exact absurd h d
      · rw [if_neg d, memsA, ← memsF_ok l (by simpa using d)]
        cases (R p).2.1 <;> simp
theorem coerceLeft (s : Sch) (ps : List Par) (args env : List Mem) (h : s.size + sumSize Par.size ps + sumSize Mem.size args + sumSize Mem.size env ≤ 1048576) (hok : s.okD) (hpo : ∀ p ∈ ps, p.d.ok) (hao : ∀ m ∈ args, m.v.ok) :
    PFn Tryd.prog 3 [s.enc, .slice (ps.map Par.enc) .no, .slice (args.map Mem.enc) .no, .slice (env.map Mem.enc) .no] (.bool true) := by
  have hw := awake23
  have hL := light23 s (memsV args) env (by omega) (by rw [memsV_size]; omega) (by omega)
  have hL2 := light8 (parSch ps) (by have := parSch_size ps; omega)
  have hpl := sumSize_length Par.size_pos ps
  have hel := sumSize_length Mem.size_pos env
  have hal := sumSize_length Mem.size_pos args
  have hA := coeArgs s (by omega) hok ps args env (by omega) hpo (by omega) hao (by omega)
  refine AFn.plain rfl (by simp [AV.closed, AV.closedL, Sch.closed, Par.closedL, Mem.closedL]) (AFn.enter [8] Tryd.func3 rfl rfl rfl rfl rfl (by decide) ?_)
  cases c1 : light23B s (memsV args) env <;> rw [c1] at hL
  · repeat' first
      | refine .br ?_
      | refine .seq ?_ | refine .rg ?_ | refine .rd ?_ | refine .block ?_ | refine .scope ?_ | refine .skip ?_ | refine .label ?_ | refine .exit ?_ | refine .ret ?_
      | refine .ct ?_ | refine .cf ?_ | refine .cy ?_ | refine .cn ?_ | (refine .cond rfl ?_ ?_ <;> intro hc)
      | refine A.nil_seq ?_ | refine .nl ?_ | refine .dd ?_ | refine .ys ?_ | refine .no ?_ | (refine A.guard rfl ?_ ?_ <;> intro hc)
      | refine .lb ?_ | refine .ln ?_ | refine .ls ?_ | refine .pv ?_ | refine .ix ?_ | refine .pt ?_ | refine .pf ?_ | refine .bx ?_ | refine .al ?_ | refine .st ?_ | refine .ad ?_ | refine .sb ?_ | refine .mf ?_ | refine .cl ?_ | refine .cw ?_ | refine .ck ?_
      | refine A.call rfl hL (WeakL.cons (Weak.refl _) (WeakL.cons weak_memsV (WeakL.refl _))) ?_ | fail
    exact Fin.ret1 rfl (Weak.refl _)
  cases c2 : lightS (parSch ps) <;> rw [c2] at hL2
  · repeat' first
      | refine .br ?_
      | refine .seq ?_ | refine .rg ?_ | refine .rd ?_ | refine .block ?_ | refine .scope ?_ | refine .skip ?_ | refine .label ?_ | refine .exit ?_ | refine .ret ?_
      | refine .ct ?_ | refine .cf ?_ | refine .cy ?_ | refine .cn ?_ | (refine .cond rfl ?_ ?_ <;> intro hc)
      | refine A.nil_seq ?_ | refine .nl ?_ | refine .dd ?_ | refine .ys ?_ | refine .no ?_ | (refine A.guard rfl ?_ ?_ <;> intro hc)
      | refine .lb ?_ | refine .ln ?_ | refine .ls ?_ | refine .pv ?_ | refine .ix ?_ | refine .pt ?_ | refine .pf ?_ | refine .bx ?_ | refine .al ?_ | refine .st ?_ | refine .ad ?_ | refine .sb ?_ | refine .mf ?_ | refine .cl ?_ | refine .cw ?_ | refine .ck ?_
      | refine A.call rfl hL (WeakL.cons (Weak.refl _) (WeakL.cons weak_memsV (WeakL.refl _))) ?_ | refine A.call rfl hL2 (WeakL.cons weak_parSch (WeakL.refl _)) ?_ | fail
    exact Fin.ret1 rfl (Weak.refl _)
  unfold argsV at hA
  rw [memsMk_F] at hA
  generalize hR : memMk s true false env (dflAll s) (mkM s true env (dflLeaf s) args) = R at hA
  have hincl : ∀ p, (R p).2.1 = inclB args env p := fun p => by rw [← hR]; exact argsR s args env p
  clear hR
  have hla := memsA_len R
  by_cases ce : (memsF R ps).2 = 0
  · have he := memsF_ok ps ce
    rw [ce, he] at hA
    repeat' first
      | refine .br ?_
      | refine .seq ?_ | refine .rg ?_ | refine .rd ?_ | refine .block ?_ | refine .scope ?_ | refine .skip ?_ | refine .label ?_ | refine .exit ?_ | refine .ret ?_
      | refine .ct ?_ | refine .cf ?_ | refine .cy ?_ | refine .cn ?_ | (refine .cond rfl ?_ ?_ <;> intro hc)
      | refine A.nil_seq ?_ | refine .nl ?_ | refine .dd ?_ | refine .ys ?_ | refine .no ?_ | (refine A.guard rfl ?_ ?_ <;> intro hc)
      | refine .lb ?_ | refine .ln ?_ | refine .ls ?_ | refine .pv ?_ | refine .ix ?_ | refine .pt ?_ | refine .pf ?_ | refine .bx ?_ | refine .al ?_ | refine .st ?_ | refine .ad ?_ | refine .sb ?_ | refine .mf ?_ | refine .cl ?_ | refine .cw ?_ | refine .ck ?_
      | refine A.call rfl hL (WeakL.cons (Weak.refl _) (WeakL.cons weak_memsV (WeakL.refl _))) ?_ | refine A.call rfl hL2 (WeakL.cons weak_parSch (WeakL.refl _)) ?_ | fail
    refine HCode.forK ps.length (fun k => [(12, .int .i64 k), (11, .int .i64 (memsA R (ps.take k)).length), (1, .slice (ps.map Par.enc) .no), (2, .slice (args.map Mem.enc) .no), (3, .slice (env.map Mem.enc) .no), (9, .slice ((memsA R ps).map Mem.enc) .no)])
      (fun _ => ⟨[], []⟩) (fun _ => True) ⟨rfl, rfl, rfl, rfl, rfl, rfl, trivial⟩ rfl trivial fun k hk _ => ?_
    by_cases h1 : k < ps.length
    · have d1 : decide ((k : Int) < (ps.length : Int)) = true := by simp [h1]
      have x1 := map_get' (f := Par.enc) h1
      have hg := get ps[k].name args (by omega)
      rw [envO_getG] at hg
      have hik := hincl ps[k]
      have htk : memsA R (ps.take (k + 1)) = memsA R (ps.take k) ++ (if (R ps[k]).2.1 = true then [.mk ps[k].name (R ps[k]).1] else []) := by
        rw [List.take_succ_eq_append_getElem h1, memsA_app, memsA, memsA, List.append_nil]
      have hl1 := hla (ps.take k)
      rw [List.length_take] at hl1
      have yes : (R ps[k]).2.1 = true → memsA R (ps.take (k + 1)) = memsA R (ps.take k) ++ [.mk ps[k].name (R ps[k]).1] := fun e => by rw [htk, if_pos e]
      have no : (R ps[k]).2.1 = false → memsA R (ps.take (k + 1)) = memsA R (ps.take k) := fun e => by rw [htk, if_neg (by rw [e]; decide), List.append_nil]
      have ix : (R ps[k]).2.1 = true → ((memsA R ps).map Mem.enc)[(memsA R (ps.take k)).length]? = some (Mem.mk ps[k].name (R ps[k]).1).enc ∧ (memsA R (ps.take k)).length < (memsA R ps).length := fun e => by
        have := memsA_get h1 e
        exact ⟨by rw [List.getElem?_map, this]; rfl, (List.getElem?_eq_some_iff.1 this).1⟩
      have nn : ∀ x : Str, (x != x) = false := fun x => by simp
      have nx := nn ps[k].name
      unfold inclB at hik
      cases ho : envO args ps[k].name with
      | none =>
        rw [ho] at hg hik
        cases hb : ps[k].has with
        | true =>
          have nb : (!ps[k].has) = false := by rw [hb]; rfl
          have i1 : (R ps[k]).2.1 = true := by rw [hik, hb]; rfl
          obtain ⟨x2, l2⟩ := ix i1
          have d2 : decide (((memsA R ps).length : Int) ≤ ((memsA R (ps.take k)).length : Int)) = false := by simp; omega
          repeat' first
            | refine .seq ?_ | refine .rg ?_ | refine .rd ?_ | refine .block ?_ | refine .scope ?_ | refine .skip ?_ | refine .label ?_ | refine .exit ?_ | refine .ret ?_
            | refine .ct ?_ | refine .cf ?_ | refine .cy ?_ | refine .cn ?_ | (refine .cond rfl ?_ ?_ <;> intro hc)
            | refine A.nil_seq ?_ | refine .nl ?_ | refine .dd ?_ | refine .ys ?_ | refine .no ?_ | (refine A.guard rfl ?_ ?_ <;> intro hc)
            | refine .lb ?_ | refine .ln ?_ | refine .ls ?_ | refine .pv ?_ | refine .ix ?_ | refine .pt ?_ | refine .pf ?_ | refine .bx ?_ | refine .al ?_ | refine .st ?_ | refine .ad ?_ | refine .sb ?_ | refine .mf ?_ | refine .cl ?_ | refine .cw ?_ | refine .ck ?_
            | refine A.index_r (j := (memsA R (ps.take k)).length) rfl rfl rfl rfl rfl rfl x2 rfl ?_ | fail
          exact ⟨h1, ⟨rfl, congrArg (AV.int .i64) (by rw [yes i1, List.length_append, List.length_singleton]; omega), rfl, rfl, rfl, rfl, trivial⟩, by simp [belowS, AV.low], rfl, rfl, trivial⟩
        | false =>
          have nb : (!ps[k].has) = true := by rw [hb]; rfl
          have i1 : (R ps[k]).2.1 = false := by rw [hik, hb]; rfl
          repeat' first
            | refine .seq ?_ | refine .rg ?_ | refine .rd ?_ | refine .block ?_ | refine .scope ?_ | refine .skip ?_ | refine .label ?_ | refine .exit ?_ | refine .ret ?_
            | refine .ct ?_ | refine .cf ?_ | refine .cy ?_ | refine .cn ?_ | (refine .cond rfl ?_ ?_ <;> intro hc)
            | refine A.nil_seq ?_ | refine .nl ?_ | refine .dd ?_ | refine .ys ?_ | refine .no ?_ | (refine A.guard rfl ?_ ?_ <;> intro hc)
            | refine .lb ?_ | refine .ln ?_ | refine .ls ?_ | refine .pv ?_ | refine .ix ?_ | refine .pt ?_ | refine .pf ?_ | refine .bx ?_ | refine .al ?_ | refine .st ?_ | refine .ad ?_ | refine .sb ?_ | refine .mf ?_ | refine .cl ?_ | refine .cw ?_ | refine .ck ?_ | fail
          exact ⟨h1, ⟨rfl, congrArg (AV.int .i64) (by rw [no i1]), rfl, rfl, rfl, rfl, trivial⟩, by simp [belowS, AV.low], rfl, rfl, trivial⟩
      | some x =>
        rw [ho] at hg hik
        by_cases k8 : x.kind = 8
        · have q8 : (x.kind == 8) = true := by simp [k8]
          have hg2 := get x.s env (by omega)
          rw [envO_getG] at hg2
          cases ho2 : envO env x.s with
          | none =>
            rw [ho2] at hg2
            have ht : thereB true env x = false := by unfold thereB; rw [ho2]; simp [k8]
            simp only [ht, Bool.false_or] at hik
            cases hb : ps[k].has with
            | true =>
              have nb : (!ps[k].has) = false := by rw [hb]; rfl
              have i1 : (R ps[k]).2.1 = true := by rw [hik, hb]
              obtain ⟨x2, l2⟩ := ix i1
              have d2 : decide (((memsA R ps).length : Int) ≤ ((memsA R (ps.take k)).length : Int)) = false := by simp; omega
              repeat' first
                | refine .seq ?_ | refine .rg ?_ | refine .rd ?_ | refine .block ?_ | refine .scope ?_ | refine .skip ?_ | refine .label ?_ | refine .exit ?_ | refine .ret ?_
                | refine .ct ?_ | refine .cf ?_ | refine .cy ?_ | refine .cn ?_ | (refine .cond rfl ?_ ?_ <;> intro hc)
                | refine A.nil_seq ?_ | refine .nl ?_ | refine .dd ?_ | refine .ys ?_ | refine .no ?_ | (refine A.guard rfl ?_ ?_ <;> intro hc)
                | refine .lb ?_ | refine .ln ?_ | refine .ls ?_ | refine .pv ?_ | refine .ix ?_ | refine .pt ?_ | refine .pf ?_ | refine .bx ?_ | refine .al ?_ | refine .st ?_ | refine .ad ?_ | refine .sb ?_ | refine .mf ?_ | refine .cl ?_ | refine .cw ?_ | refine .ck ?_
                | refine A.index_r (j := (memsA R (ps.take k)).length) rfl rfl rfl rfl rfl rfl x2 rfl ?_ | fail
              exact ⟨h1, ⟨rfl, congrArg (AV.int .i64) (by rw [yes i1, List.length_append, List.length_singleton]; omega), rfl, rfl, rfl, rfl, trivial⟩, by simp [belowS, AV.low], rfl, rfl, trivial⟩
            | false =>
              have nb : (!ps[k].has) = true := by rw [hb]; rfl
              have i1 : (R ps[k]).2.1 = false := by rw [hik, hb]
              repeat' first
                | refine .seq ?_ | refine .rg ?_ | refine .rd ?_ | refine .block ?_ | refine .scope ?_ | refine .skip ?_ | refine .label ?_ | refine .exit ?_ | refine .ret ?_
                | refine .ct ?_ | refine .cf ?_ | refine .cy ?_ | refine .cn ?_ | (refine .cond rfl ?_ ?_ <;> intro hc)
                | refine A.nil_seq ?_ | refine .nl ?_ | refine .dd ?_ | refine .ys ?_ | refine .no ?_ | (refine A.guard rfl ?_ ?_ <;> intro hc)
                | refine .lb ?_ | refine .ln ?_ | refine .ls ?_ | refine .pv ?_ | refine .ix ?_ | refine .pt ?_ | refine .pf ?_ | refine .bx ?_ | refine .al ?_ | refine .st ?_ | refine .ad ?_ | refine .sb ?_ | refine .mf ?_ | refine .cl ?_ | refine .cw ?_ | refine .ck ?_ | fail
              exact ⟨h1, ⟨rfl, congrArg (AV.int .i64) (by rw [no i1]), rfl, rfl, rfl, rfl, trivial⟩, by simp [belowS, AV.low], rfl, rfl, trivial⟩
          | some y =>
            rw [ho2] at hg2
            have ht : thereB true env x = true := by unfold thereB; rw [ho2]; simp [k8]
            have i1 : (R ps[k]).2.1 = true := by rw [hik]; simp [ht]
            obtain ⟨x2, l2⟩ := ix i1
            have d2 : decide (((memsA R ps).length : Int) ≤ ((memsA R (ps.take k)).length : Int)) = false := by simp; omega
            repeat' first
              | refine .seq ?_ | refine .rg ?_ | refine .rd ?_ | refine .block ?_ | refine .scope ?_ | refine .skip ?_ | refine .label ?_ | refine .exit ?_ | refine .ret ?_
              | refine .ct ?_ | refine .cf ?_ | refine .cy ?_ | refine .cn ?_ | (refine .cond rfl ?_ ?_ <;> intro hc)
              | refine A.nil_seq ?_ | refine .nl ?_ | refine .dd ?_ | refine .ys ?_ | refine .no ?_ | (refine A.guard rfl ?_ ?_ <;> intro hc)
              | refine .lb ?_ | refine .ln ?_ | refine .ls ?_ | refine .pv ?_ | refine .ix ?_ | refine .pt ?_ | refine .pf ?_ | refine .bx ?_ | refine .al ?_ | refine .st ?_ | refine .ad ?_ | refine .sb ?_ | refine .mf ?_ | refine .cl ?_ | refine .cw ?_ | refine .ck ?_
              | refine A.index_r (j := (memsA R (ps.take k)).length) rfl rfl rfl rfl rfl rfl x2 rfl ?_ | fail
            exact ⟨h1, ⟨rfl, congrArg (AV.int .i64) (by rw [yes i1, List.length_append, List.length_singleton]; omega), rfl, rfl, rfl, rfl, trivial⟩, by simp [belowS, AV.low], rfl, rfl, trivial⟩
        · have q8 : (x.kind == 8) = false := by simp [k8]
          have ht : thereB true env x = true := by unfold thereB; simp [k8]
          have i1 : (R ps[k]).2.1 = true := by rw [hik]; simp [ht]
          obtain ⟨x2, l2⟩ := ix i1
          have d2 : decide (((memsA R ps).length : Int) ≤ ((memsA R (ps.take k)).length : Int)) = false := by simp; omega
          repeat' first
            | refine .seq ?_ | refine .rg ?_ | refine .rd ?_ | refine .block ?_ | refine .scope ?_ | refine .skip ?_ | refine .label ?_ | refine .exit ?_ | refine .ret ?_
            | refine .ct ?_ | refine .cf ?_ | refine .cy ?_ | refine .cn ?_ | (refine .cond rfl ?_ ?_ <;> intro hc)
            | refine A.nil_seq ?_ | refine .nl ?_ | refine .dd ?_ | refine .ys ?_ | refine .no ?_ | (refine A.guard rfl ?_ ?_ <;> intro hc)
            | refine .lb ?_ | refine .ln ?_ | refine .ls ?_ | refine .pv ?_ | refine .ix ?_ | refine .pt ?_ | refine .pf ?_ | refine .bx ?_ | refine .al ?_ | refine .st ?_ | refine .ad ?_ | refine .sb ?_ | refine .mf ?_ | refine .cl ?_ | refine .cw ?_ | refine .ck ?_
            | refine A.index_r (j := (memsA R (ps.take k)).length) rfl rfl rfl rfl rfl rfl x2 rfl ?_ | fail
          exact ⟨h1, ⟨rfl, congrArg (AV.int .i64) (by rw [yes i1, List.length_append, List.length_singleton]; omega), rfl, rfl, rfl, rfl, trivial⟩, by simp [belowS, AV.low], rfl, rfl, trivial⟩
    · have d1 : decide ((k : Int) < (ps.length : Int)) = false := by simp; omega
      obtain rfl : k = ps.length := by omega
      rw [List.take_length]
      have ee : (((memsA R ps).length : Int) == ((memsA R ps).length : Int)) = true := by simp
      repeat' first
        | refine .seq ?_ | refine .rg ?_ | refine .rd ?_ | refine .block ?_ | refine .scope ?_ | refine .skip ?_ | refine .label ?_ | refine .exit ?_ | refine .ret ?_
        | refine .ct ?_ | refine .cf ?_ | refine .cy ?_ | refine .cn ?_ | (refine .cond rfl ?_ ?_ <;> intro hc)
        | refine A.nil_seq ?_ | refine .nl ?_ | refine .dd ?_ | refine .ys ?_ | refine .no ?_ | (refine A.guard rfl ?_ ?_ <;> intro hc)
        | refine .lb ?_ | refine .ln ?_ | refine .ls ?_ | refine .pv ?_ | refine .ix ?_ | refine .pt ?_ | refine .pf ?_ | refine .bx ?_ | refine .al ?_ | refine .st ?_ | refine .ad ?_ | refine .sb ?_ | refine .mf ?_ | refine .cl ?_ | refine .cw ?_ | refine .ck ?_ | fail
      exact Fin.ret1 rfl (Weak.refl _)
  · have ce' : ((memsF R ps).2 != 0) = true := by simpa using ce
    rw [memsF_err R ps ce] at hA
    repeat' first
      | refine .br ?_
      | refine .seq ?_ | refine .rg ?_ | refine .rd ?_ | refine .block ?_ | refine .scope ?_ | refine .skip ?_ | refine .label ?_ | refine .exit ?_ | refine .ret ?_
      | refine .ct ?_ | refine .cf ?_ | refine .cy ?_ | refine .cn ?_ | (refine .cond rfl ?_ ?_ <;> intro hc)
      | refine A.nil_seq ?_ | refine .nl ?_ | refine .dd ?_ | refine .ys ?_ | refine .no ?_ | (refine A.guard rfl ?_ ?_ <;> intro hc)
      | refine .lb ?_ | refine .ln ?_ | refine .ls ?_ | refine .pv ?_ | refine .ix ?_ | refine .pt ?_ | refine .pf ?_ | refine .bx ?_ | refine .al ?_ | refine .st ?_ | refine .ad ?_ | refine .sb ?_ | refine .mf ?_ | refine .cl ?_ | refine .cw ?_ | refine .ck ?_
      | refine A.call rfl hL (WeakL.cons (Weak.refl _) (WeakL.cons weak_memsV (WeakL.refl _))) ?_ | refine A.call rfl hL2 (WeakL.cons weak_parSch (WeakL.refl _)) ?_ | fail
    exact Fin.ret1 rfl (Weak.refl _)
end Go.Proofs.YtpidjkihngiaoaaDoor
