/-
  The reference: run, numeral, Number.
-/
import Derived.Test.YtijlmchfepjjkaaGreatDoorMNum3
import Derived.Test.YtijlmchfepjjkaaGreatDoorMRefA
namespace Go.Proofs.YtijlmchfepjjkaaGreatDoor
open Go Go.Av
set_option maxRecDepth 100000
set_option maxHeartbeats 16000000
set_option linter.unusedVariables false
set_option linter.unusedSimpArgs false
attribute [local irreducible] HCode AOps PFn AFn Av.Step TStep

theorem rRun (s : Str) (i : Nat) (hs : s.length ≤ 4611686018427387904) (hi : i ≤ 4611686018427387904) : PFn Tryz.prog 84 [.str s, .int .i64 (i : Int)] (.int .i64 (digs (s.drop i))) := by
  refine AFn.plain rfl rfl (AFn.enter [4] Tryz.func84 rfl rfl rfl rfl rfl (by decide) ?_)
  have hle := digs_le (s.drop i)
  rw [List.length_drop] at hle
  repeat' first
    | refine .seq ?_ | refine .rg ?_ | refine .rd ?_ | refine .block ?_ | refine .scope ?_ | refine .skip ?_ | refine .label ?_ | refine .exit ?_ | refine .ret ?_
    | refine .ct ?_ | refine .cf ?_ | refine .cy ?_ | refine .cn ?_ | (refine .cond rfl ?_ ?_ <;> intro hc)
    | refine A.nil_seq ?_ | refine .nl ?_ | refine .dd ?_ | refine .ys ?_ | refine .no ?_ | (refine A.guard rfl ?_ ?_ <;> intro hc)
    | refine .lb ?_ | refine .ln ?_ | refine .ls ?_ | refine .pv ?_ | refine .ix ?_ | refine .pt ?_ | refine .pf ?_ | refine .bx ?_ | refine .al ?_ | refine .st ?_ | refine .ad ?_ | refine .sb ?_ | refine .mf ?_ | refine .cl ?_ | refine .cw ?_ | refine .ck ?_ | fail
  refine HCode.forK (s.length - i) (fun k => [(5, .int .i64 k), (0, .str s), (1, .int .i64 (i : Int))]) (fun _ => ⟨[], []⟩) (fun k => digs (s.drop i) = k + digs (s.drop (i + k))) ⟨rfl, rfl, rfl, trivial⟩ rfl (by simp) fun k hk hp => ?_
  by_cases h1 : i + k < s.length
  · have d1 : decide ((i : Int) + (k : Int) < (s.length : Int)) = true := decide_eq_true (by omega)
    have x1 := get_str h1
    have hd := rDigit s[i + k]
    have he := digs_drop h1
    repeat' first
      | refine .seq ?_ | refine .rg ?_ | refine .rd ?_ | refine .block ?_ | refine .scope ?_ | refine .skip ?_ | refine .label ?_ | refine .exit ?_ | refine .ret ?_
      | refine .ct ?_ | refine .cf ?_ | refine .cy ?_ | refine .cn ?_ | (refine .cond rfl ?_ ?_ <;> intro hc)
      | refine A.nil_seq ?_ | refine .nl ?_ | refine .dd ?_ | refine .ys ?_ | refine .no ?_ | (refine A.guard rfl ?_ ?_ <;> intro hc)
      | refine .lb ?_ | refine .ln ?_ | refine .ls ?_ | refine .pv ?_ | refine .ix ?_ | refine .pt ?_ | refine .pf ?_ | refine .bx ?_ | refine .al ?_ | refine .st ?_ | refine .ad ?_ | refine .sb ?_ | refine .mf ?_ | refine .cl ?_ | refine .cw ?_ | refine .ck ?_
      | refine A.index_s (j := i + k) rfl rfl rfl rfl rfl (by assumption) ?_ | fail
    · exact ⟨by omega, ⟨rfl, rfl, rfl, trivial⟩, by simp [belowS, AV.low], rfl, rfl, by rw [hp, he, if_pos hc]; simp only [Nat.add_assoc]; omega⟩
    · refine Fin.ret1 rfl (Weak.eq (congrArg (AV.int .i64) ?_))
      rw [hp, he, if_neg (by simp [hc])]; simp
  · have d1 : decide ((i : Int) + (k : Int) < (s.length : Int)) = false := decide_eq_false (by omega)
    repeat' first
      | refine .seq ?_ | refine .rg ?_ | refine .rd ?_ | refine .block ?_ | refine .scope ?_ | refine .skip ?_ | refine .label ?_ | refine .exit ?_ | refine .ret ?_
      | refine .ct ?_ | refine .cf ?_ | refine .cy ?_ | refine .cn ?_ | (refine .cond rfl ?_ ?_ <;> intro hc)
      | refine A.nil_seq ?_ | refine .nl ?_ | refine .dd ?_ | refine .ys ?_ | refine .no ?_ | (refine A.guard rfl ?_ ?_ <;> intro hc)
      | refine .lb ?_ | refine .ln ?_ | refine .ls ?_ | refine .pv ?_ | refine .ix ?_ | refine .pt ?_ | refine .pf ?_ | refine .bx ?_ | refine .al ?_ | refine .st ?_ | refine .ad ?_ | refine .sb ?_ | refine .mf ?_ | refine .cl ?_ | refine .cw ?_ | refine .ck ?_ | fail
    refine Fin.ret1 rfl (Weak.eq (congrArg (AV.int .i64) ?_))
    rw [hp, List.drop_eq_nil_of_le (by omega), digs]; simp
/-- The exponent's part. -/
def expN (s : Str) (i : Nat) (kd : Int) : Nat × Int := if powN (s.drop i) = 0 then (i, kd) else (i + powN (s.drop i), 4)
theorem powN_at {s : Str} {i : Nat} (h : i < s.length) : powN (s.drop i) = if s[i].toNat = 101 ∨ s[i].toNat = 69 then
    (if i + 1 < s.length ∧ ((s.getD (i + 1) 0).toNat = 43 ∨ (s.getD (i + 1) 0).toNat = 45) then (if digs (s.drop (i + 2)) = 0 then 0 else 2 + digs (s.drop (i + 2))) else (if digs (s.drop (i + 1)) = 0 then 0 else 1 + digs (s.drop (i + 1)))) else 0 := by
  unfold powN expAt
  have e0 : (s.drop i).getD 0 0 = s[i] := by rw [List.drop_eq_getElem_cons h]; rfl
  have e1 : (s.drop i).getD 1 0 = s.getD (i + 1) 0 := by simp [List.getD]
  rw [e0, e1]
  simp only [List.drop_drop, List.length_drop]
  have e2 : (1 < s.length - i) ↔ (i + 1 < s.length) := by omega
  simp only [e2]
theorem powN_end {s : Str} {i : Nat} (h : s.length ≤ i) : powN (s.drop i) = 0 := by
  rw [List.drop_eq_nil_of_le h]; rfl
theorem beq_no {a b : Int} (h : a ≠ b) : (a == b) = false := by simpa using h
theorem beq_yes {a b : Int} (h : a = b) : (a == b) = true := by simpa using h
theorem num3 (s : Str) (i : Nat) (kd : Int) (hs : s.length ≤ 4611686018427387000) (hi : i ≤ s.length) :
    HCode Tryz.prog Tryz.f67.ntmps [] (tailOf 8 (bodyOf Tryz.f67)) (fin [2, 3] (fun e _ => ∃ v, e = .ret v ∧ Weak v (.tup [.int .i64 (expN s i kd).1, .int .i64 (expN s i kd).2])))
      [(0, .str s), (4, .int .i64 (i : Int)), (6, .int .i64 kd)] ⟨[], []⟩ := by
  unfold expN
  by_cases h1 : i < s.length
  · have d1 : decide ((i : Int) < (s.length : Int)) = true := decide_eq_true (by omega)
    have x1 := get_str h1
    have hr1 := rRun s (i + 1) (by omega) (by omega)
    have hr2 := rRun s (i + 2) (by omega) (by omega)
    have hle1 := digs_le (s.drop (i + 1))
    have hle2 := digs_le (s.drop (i + 2))
    rw [List.length_drop] at hle1 hle2
    have hpw := powN_at h1
    by_cases q : s[i].toNat = 101 ∨ s[i].toNat = 69
    · rw [if_pos q] at hpw
      have e1 : ((s[i].toNat : Int) == 101) = decide (s[i].toNat = 101) := by rw [Bool.eq_iff_iff, beq_iff_eq, decide_eq_true_eq]; omega
      have e2 : ((s[i].toNat : Int) == 69) = decide (s[i].toNat = 69) := by rw [Bool.eq_iff_iff, beq_iff_eq, decide_eq_true_eq]; omega
      by_cases h2 : i + 1 < s.length
      · have d2 : decide ((i : Int) + 1 < (s.length : Int)) = true := decide_eq_true (by omega)
        have x2 := get_str h2
        rw [getD_of h2] at hpw
        by_cases q2 : s[i + 1].toNat = 43 ∨ s[i + 1].toNat = 45
        · rw [if_pos ⟨h2, q2⟩] at hpw
          by_cases c3 : digs (s.drop (i + 2)) = 0
          · have d3 : decide (0 < (digs (s.drop (i + 2)) : Int)) = false := decide_eq_false (by omega)
            rw [if_pos c3] at hpw
            rw [if_pos hpw]
            rcases q with q | q <;> rcases q2 with q2 | q2 <;> rw [q] at e1 e2
            all_goals
              have u1 : ((s[i + 1].toNat : Int) == 43) = decide (s[i + 1].toNat = 43) := by rw [Bool.eq_iff_iff, beq_iff_eq, decide_eq_true_eq]; omega
              have u2 : ((s[i + 1].toNat : Int) == 45) = decide (s[i + 1].toNat = 45) := by rw [Bool.eq_iff_iff, beq_iff_eq, decide_eq_true_eq]; omega
              rw [q2] at u1 u2
              repeat' first
                | refine .seq ?_ | refine .rg ?_ | refine .rd ?_ | refine .block ?_ | refine .scope ?_ | refine .skip ?_ | refine .label ?_ | refine .exit ?_ | refine .ret ?_
                | refine .ct ?_ | refine .cf ?_ | refine .cy ?_ | refine .cn ?_ | (refine .cond rfl ?_ ?_ <;> intro hc)
                | refine A.nil_seq ?_ | refine .nl ?_ | refine .dd ?_ | refine .ys ?_ | refine .no ?_ | (refine A.guard rfl ?_ ?_ <;> intro hc)
                | refine .lb ?_ | refine .ln ?_ | refine .ls ?_ | refine .pv ?_ | refine .ix ?_ | refine .pt ?_ | refine .pf ?_ | refine .bx ?_ | refine .al ?_ | refine .st ?_ | refine .ad ?_ | refine .sb ?_ | refine .mf ?_ | refine .cl ?_ | refine .cw ?_ | refine .ck ?_
                | refine A.index_s (j := i) rfl rfl rfl rfl rfl (by assumption) ?_ | refine A.index_s (j := i + 1) rfl rfl rfl rfl rfl (by assumption) ?_ | fail
              all_goals first
                | exact Fin.two rfl rfl (Weak.refl _)
                | (exfalso; simp_all; done)
          · have d3 : decide (0 < (digs (s.drop (i + 2)) : Int)) = true := decide_eq_true (by omega)
            rw [if_neg c3] at hpw
            rw [if_neg (by omega), hpw]
            rcases q with q | q <;> rcases q2 with q2 | q2 <;> rw [q] at e1 e2
            all_goals
              have u1 : ((s[i + 1].toNat : Int) == 43) = decide (s[i + 1].toNat = 43) := by rw [Bool.eq_iff_iff, beq_iff_eq, decide_eq_true_eq]; omega
              have u2 : ((s[i + 1].toNat : Int) == 45) = decide (s[i + 1].toNat = 45) := by rw [Bool.eq_iff_iff, beq_iff_eq, decide_eq_true_eq]; omega
              rw [q2] at u1 u2
              repeat' first
                | refine .seq ?_ | refine .rg ?_ | refine .rd ?_ | refine .block ?_ | refine .scope ?_ | refine .skip ?_ | refine .label ?_ | refine .exit ?_ | refine .ret ?_
                | refine .ct ?_ | refine .cf ?_ | refine .cy ?_ | refine .cn ?_ | (refine .cond rfl ?_ ?_ <;> intro hc)
                | refine A.nil_seq ?_ | refine .nl ?_ | refine .dd ?_ | refine .ys ?_ | refine .no ?_ | (refine A.guard rfl ?_ ?_ <;> intro hc)
                | refine .lb ?_ | refine .ln ?_ | refine .ls ?_ | refine .pv ?_ | refine .ix ?_ | refine .pt ?_ | refine .pf ?_ | refine .bx ?_ | refine .al ?_ | refine .st ?_ | refine .ad ?_ | refine .sb ?_ | refine .mf ?_ | refine .cl ?_ | refine .cw ?_ | refine .ck ?_
                | refine A.index_s (j := i) rfl rfl rfl rfl rfl (by assumption) ?_ | refine A.index_s (j := i + 1) rfl rfl rfl rfl rfl (by assumption) ?_ | fail
              all_goals first
                | (refine Fin.two rfl rfl (Weak.eq ?_); congr 2; congr 1; omega)
                | (exfalso; simp_all; done)
        · rw [if_neg (fun h => q2 h.2)] at hpw
          have u1 : ((s[i + 1].toNat : Int) == 43) = false := beq_no (by omega)
          have u2 : ((s[i + 1].toNat : Int) == 45) = false := beq_no (by omega)
          by_cases c3 : digs (s.drop (i + 1)) = 0
          · have d3 : decide (0 < (digs (s.drop (i + 1)) : Int)) = false := decide_eq_false (by omega)
            rw [if_pos c3] at hpw
            rw [if_pos hpw]
            rcases q with q | q <;> rw [q] at e1 e2
            all_goals
              repeat' first
                | refine .seq ?_ | refine .rg ?_ | refine .rd ?_ | refine .block ?_ | refine .scope ?_ | refine .skip ?_ | refine .label ?_ | refine .exit ?_ | refine .ret ?_
                | refine .ct ?_ | refine .cf ?_ | refine .cy ?_ | refine .cn ?_ | (refine .cond rfl ?_ ?_ <;> intro hc)
                | refine A.nil_seq ?_ | refine .nl ?_ | refine .dd ?_ | refine .ys ?_ | refine .no ?_ | (refine A.guard rfl ?_ ?_ <;> intro hc)
                | refine .lb ?_ | refine .ln ?_ | refine .ls ?_ | refine .pv ?_ | refine .ix ?_ | refine .pt ?_ | refine .pf ?_ | refine .bx ?_ | refine .al ?_ | refine .st ?_ | refine .ad ?_ | refine .sb ?_ | refine .mf ?_ | refine .cl ?_ | refine .cw ?_ | refine .ck ?_
                | refine A.index_s (j := i) rfl rfl rfl rfl rfl (by assumption) ?_ | refine A.index_s (j := i + 1) rfl rfl rfl rfl rfl (by assumption) ?_ | fail
              all_goals first
                | exact Fin.two rfl rfl (Weak.refl _)
                | (exfalso; simp_all; done)
          · have d3 : decide (0 < (digs (s.drop (i + 1)) : Int)) = true := decide_eq_true (by omega)
            rw [if_neg c3] at hpw
            rw [if_neg (by omega), hpw]
            rcases q with q | q <;> rw [q] at e1 e2
            all_goals
              repeat' first
                | refine .seq ?_ | refine .rg ?_ | refine .rd ?_ | refine .block ?_ | refine .scope ?_ | refine .skip ?_ | refine .label ?_ | refine .exit ?_ | refine .ret ?_
                | refine .ct ?_ | refine .cf ?_ | refine .cy ?_ | refine .cn ?_ | (refine .cond rfl ?_ ?_ <;> intro hc)
                | refine A.nil_seq ?_ | refine .nl ?_ | refine .dd ?_ | refine .ys ?_ | refine .no ?_ | (refine A.guard rfl ?_ ?_ <;> intro hc)
                | refine .lb ?_ | refine .ln ?_ | refine .ls ?_ | refine .pv ?_ | refine .ix ?_ | refine .pt ?_ | refine .pf ?_ | refine .bx ?_ | refine .al ?_ | refine .st ?_ | refine .ad ?_ | refine .sb ?_ | refine .mf ?_ | refine .cl ?_ | refine .cw ?_ | refine .ck ?_
                | refine A.index_s (j := i) rfl rfl rfl rfl rfl (by assumption) ?_ | refine A.index_s (j := i + 1) rfl rfl rfl rfl rfl (by assumption) ?_ | fail
              all_goals first
                | (refine Fin.two rfl rfl (Weak.eq ?_); congr 2; congr 1; omega)
                | (exfalso; simp_all; done)
      · have d2 : decide ((i : Int) + 1 < (s.length : Int)) = false := decide_eq_false (by omega)
        have c3 : digs (s.drop (i + 1)) = 0 := by rw [List.drop_eq_nil_of_le (by omega)]; rfl
        have d3 : decide (0 < (digs (s.drop (i + 1)) : Int)) = false := decide_eq_false (by omega)
        rw [if_neg (fun h => h2 h.1), if_pos c3] at hpw
        rw [if_pos hpw]
        rcases q with q | q <;> rw [q] at e1 e2
        all_goals
          repeat' first
            | refine .seq ?_ | refine .rg ?_ | refine .rd ?_ | refine .block ?_ | refine .scope ?_ | refine .skip ?_ | refine .label ?_ | refine .exit ?_ | refine .ret ?_
            | refine .ct ?_ | refine .cf ?_ | refine .cy ?_ | refine .cn ?_ | (refine .cond rfl ?_ ?_ <;> intro hc)
            | refine A.nil_seq ?_ | refine .nl ?_ | refine .dd ?_ | refine .ys ?_ | refine .no ?_ | (refine A.guard rfl ?_ ?_ <;> intro hc)
            | refine .lb ?_ | refine .ln ?_ | refine .ls ?_ | refine .pv ?_ | refine .ix ?_ | refine .pt ?_ | refine .pf ?_ | refine .bx ?_ | refine .al ?_ | refine .st ?_ | refine .ad ?_ | refine .sb ?_ | refine .mf ?_ | refine .cl ?_ | refine .cw ?_ | refine .ck ?_
            | refine A.index_s (j := i) rfl rfl rfl rfl rfl (by assumption) ?_ | fail
          all_goals first
            | exact Fin.two rfl rfl (Weak.refl _)
            | (exfalso; simp_all; done)
    · rw [if_neg q] at hpw
      have e1 : ((s[i].toNat : Int) == 101) = false := beq_no (by omega)
      have e2 : ((s[i].toNat : Int) == 69) = false := beq_no (by omega)
      rw [if_pos hpw]
      repeat' first
        | refine .seq ?_ | refine .rg ?_ | refine .rd ?_ | refine .block ?_ | refine .scope ?_ | refine .skip ?_ | refine .label ?_ | refine .exit ?_ | refine .ret ?_
        | refine .ct ?_ | refine .cf ?_ | refine .cy ?_ | refine .cn ?_ | (refine .cond rfl ?_ ?_ <;> intro hc)
        | refine A.nil_seq ?_ | refine .nl ?_ | refine .dd ?_ | refine .ys ?_ | refine .no ?_ | (refine A.guard rfl ?_ ?_ <;> intro hc)
        | refine .lb ?_ | refine .ln ?_ | refine .ls ?_ | refine .pv ?_ | refine .ix ?_ | refine .pt ?_ | refine .pf ?_ | refine .bx ?_ | refine .al ?_ | refine .st ?_ | refine .ad ?_ | refine .sb ?_ | refine .mf ?_ | refine .cl ?_ | refine .cw ?_ | refine .ck ?_
        | refine A.index_s (j := i) rfl rfl rfl rfl rfl (by assumption) ?_ | fail
      exact Fin.two rfl rfl (Weak.refl _)
  · have d1 : decide ((i : Int) < (s.length : Int)) = false := decide_eq_false (by omega)
    rw [if_pos (powN_end (by omega))]
    repeat' first
      | refine .seq ?_ | refine .rg ?_ | refine .rd ?_ | refine .block ?_ | refine .scope ?_ | refine .skip ?_ | refine .label ?_ | refine .exit ?_ | refine .ret ?_
      | refine .ct ?_ | refine .cf ?_ | refine .cy ?_ | refine .cn ?_ | (refine .cond rfl ?_ ?_ <;> intro hc)
      | refine A.nil_seq ?_ | refine .nl ?_ | refine .dd ?_ | refine .ys ?_ | refine .no ?_ | (refine A.guard rfl ?_ ?_ <;> intro hc)
      | refine .lb ?_ | refine .ln ?_ | refine .ls ?_ | refine .pv ?_ | refine .ix ?_ | refine .pt ?_ | refine .pf ?_ | refine .bx ?_ | refine .al ?_ | refine .st ?_ | refine .ad ?_ | refine .sb ?_ | refine .mf ?_ | refine .cl ?_ | refine .cw ?_ | refine .ck ?_ | fail
    exact Fin.two rfl rfl (Weak.refl _)
end Go.Proofs.YtijlmchfepjjkaaGreatDoor
