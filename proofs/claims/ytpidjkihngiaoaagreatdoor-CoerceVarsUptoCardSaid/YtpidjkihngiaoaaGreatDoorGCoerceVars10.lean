/-
  The reference: run, numeral, Number.
  The reference: numeral, Number.
  The reference: Codes, Good, Int64, GoodValue.
  Bytes as a text. The reference's Decimal.
-/
import Derived.Test.YtpidjkihngiaoaaGreatDoorGCoerceVars2
import Derived.Test.YtpidjkihngiaoaaGreatDoorGCoerceVars9
import Derived.Lib.ValidLaws
import Derived.Lib.ParseIntB
import Derived.Laws.BytesString
import Derived.Lib.ItoaMem
import Derived.Lib.ItoaLen
import Derived.Test.YtpidjkihngiaoaaGreatDoorGCoerceVars4
namespace Go.Proofs.YtpidjkihngiaoaaGreatDoor
open Go Go.Av
set_option maxRecDepth 100000
set_option maxHeartbeats 16000000
set_option linter.unusedVariables false
set_option linter.unusedSimpArgs false
attribute [local irreducible] HCode AOps PFn AFn Av.Step TStep

theorem rRun (s : Str) (i : Nat) (hs : s.length ≤ 4611686018427387904) (hi : i ≤ 4611686018427387904) : PFn Tryz.prog 215 [.str s, .int .i64 (i : Int)] (.int .i64 (digs (s.drop i))) := by
  refine AFn.plain rfl rfl (AFn.enter [4] Tryz.func215 rfl rfl rfl rfl rfl (by decide) ?_)
  have hle := digs_le (s.drop i)
  rw [List.length_drop] at hle
  repeat' first
    | refine .seq ?_ | refine .rg ?_ | refine .rd ?_ | refine .block ?_ | refine .scope ?_ | refine .skip ?_ | refine .label ?_ | refine .exit ?_ | refine .ret ?_
    | refine .ct ?_ | refine .cf ?_ | refine .cy ?_ | refine .cn ?_ | (refine .cond rfl ?_ ?_ <;> intro hc)
    | refine A.nil_seq ?_ | refine .nl ?_ | refine .dd ?_ | refine .ys ?_ | refine .no ?_ | (refine A.guard rfl ?_ ?_ <;> intro hc)
    | refine .lb ?_ | refine .ln ?_ | refine .ls ?_ | refine .pv ?_ | refine .ix ?_ | refine .pt ?_ | refine .pf ?_ | refine .bx ?_ | refine .al ?_ | refine .st ?_ | refine .ad ?_ | refine .sb ?_ | refine .mf ?_ | refine .cl ?_ | refine .cw ?_ | refine .ck ?_ | fail
  refine HCode.forK (s.length - i) (fun k => [(5, .int .i64 k), (0, .str s), (1, .int .i64 (i : Int))]) (fun _ => ⟨[], []⟩) (fun k => digs (s.drop i) = k + digs (s.drop (i + k))) ⟨rfl, rfl, rfl, trivial⟩ rfl (by simp) fun k hk hp => ?_
  by_cases h1 : i + k < s.length
  · have d1 : decide ((i : Int) + (k : Int) < (s.length : Int)) = true := decide_eq_true (by omega)
    have x1 := get_str h1
    have hd := rDigit s[i + k]
    have he := digs_drop h1
    repeat' first
      | refine .seq ?_ | refine .rg ?_ | refine .rd ?_ | refine .block ?_ | refine .scope ?_ | refine .skip ?_ | refine .label ?_ | refine .exit ?_ | refine .ret ?_
      | refine .ct ?_ | refine .cf ?_ | refine .cy ?_ | refine .cn ?_ | (refine .cond rfl ?_ ?_ <;> intro hc)
      | refine A.nil_seq ?_ | refine .nl ?_ | refine .dd ?_ | refine .ys ?_ | refine .no ?_ | (refine A.guard rfl ?_ ?_ <;> intro hc)
      | refine .lb ?_ | refine .ln ?_ | refine .ls ?_ | refine .pv ?_ | refine .ix ?_ | refine .pt ?_ | refine .pf ?_ | refine .bx ?_ | refine .al ?_ | refine .st ?_ | refine .ad ?_ | refine .sb ?_ | refine .mf ?_ | refine .cl ?_ | refine .cw ?_ | refine .ck ?_
      | refine A.index_s (j := i + k) rfl rfl rfl rfl rfl (by assumption) ?_ | fail
    · exact ⟨by omega, ⟨rfl, rfl, rfl, trivial⟩, by simp [belowS, AV.low], rfl, rfl, by rw [hp, he, if_pos hc]; simp only [Nat.add_assoc]; omega⟩
    · refine Fin.ret1 rfl (Weak.eq (congrArg (AV.int .i64) ?_))
      rw [hp, he, if_neg (by simp [hc])]; simp
  · have d1 : decide ((i : Int) + (k : Int) < (s.length : Int)) = false := decide_eq_false (by omega)
    repeat' first
      | refine .seq ?_ | refine .rg ?_ | refine .rd ?_ | refine .block ?_ | refine .scope ?_ | refine .skip ?_ | refine .label ?_ | refine .exit ?_ | refine .ret ?_
      | refine .ct ?_ | refine .cf ?_ | refine .cy ?_ | refine .cn ?_ | (refine .cond rfl ?_ ?_ <;> intro hc)
      | refine A.nil_seq ?_ | refine .nl ?_ | refine .dd ?_ | refine .ys ?_ | refine .no ?_ | (refine A.guard rfl ?_ ?_ <;> intro hc)
      | refine .lb ?_ | refine .ln ?_ | refine .ls ?_ | refine .pv ?_ | refine .ix ?_ | refine .pt ?_ | refine .pf ?_ | refine .bx ?_ | refine .al ?_ | refine .st ?_ | refine .ad ?_ | refine .sb ?_ | refine .mf ?_ | refine .cl ?_ | refine .cw ?_ | refine .ck ?_ | fail
    refine Fin.ret1 rfl (Weak.eq (congrArg (AV.int .i64) ?_))
    rw [hp, List.drop_eq_nil_of_le (by omega), digs]; simp
/-- The exponent's part. -/
def expN (s : Str) (i : Nat) (kd : Int) : Nat × Int := if powN (s.drop i) = 0 then (i, kd) else (i + powN (s.drop i), 4)
theorem powN_at {s : Str} {i : Nat} (h : i < s.length) : powN (s.drop i) = if s[i].toNat = 101 ∨ s[i].toNat = 69 then
    (if i + 1 < s.length ∧ ((s.getD (i + 1) 0).toNat = 43 ∨ (s.getD (i + 1) 0).toNat = 45) then (if digs (s.drop (i + 2)) = 0 then 0 else 2 + digs (s.drop (i + 2))) else (if digs (s.drop (i + 1)) = 0 then 0 else 1 + digs (s.drop (i + 1)))) else 0 := by
  unfold powN expAt
  have e0 : (s.drop i).getD 0 0 = s[i] := by rw [List.drop_eq_getElem_cons h]; rfl
  have e1 : (s.drop i).getD 1 0 = s.getD (i + 1) 0 := by simp [List.getD]
  rw [e0, e1]
  simp only [List.drop_drop, List.length_drop]
  have e2 : (1 < s.length - i) ↔ (i + 1 < s.length) := by omega
  simp only [e2]
theorem powN_end {s : Str} {i : Nat} (h : s.length ≤ i) : powN (s.drop i) = 0 := by
  rw [List.drop_eq_nil_of_le h]; rfl
theorem beq_no {a b : Int} (h : a ≠ b) : (a == b) = false := by simpa using h
theorem beq_yes {a b : Int} (h : a = b) : (a == b) = true := by simpa using h
theorem num3 (s : Str) (i : Nat) (kd : Int) (hs : s.length ≤ 4611686018427387000) (hi : i ≤ s.length) :
    HCode Tryz.prog Tryz.f150.ntmps [] (tailOf 8 (bodyOf Tryz.f150)) (fin [2, 3] (fun e _ => ∃ v, e = .ret v ∧ Weak v (.tup [.int .i64 (expN s i kd).1, .int .i64 (expN s i kd).2])))
      [(0, .str s), (4, .int .i64 (i : Int)), (6, .int .i64 kd)] ⟨[], []⟩ := by
  unfold expN
  by_cases h1 : i < s.length
  · have d1 : decide ((i : Int) < (s.length : Int)) = true := decide_eq_true (by omega)
    have x1 := get_str h1
    have hr1 := rRun s (i + 1) (by omega) (by omega)
    have hr2 := rRun s (i + 2) (by omega) (by omega)
    have hle1 := digs_le (s.drop (i + 1))
    have hle2 := digs_le (s.drop (i + 2))
    rw [List.length_drop] at hle1 hle2
    have hpw := powN_at h1
    by_cases q : s[i].toNat = 101 ∨ s[i].toNat = 69
    · rw [if_pos q] at hpw
      have e1 : ((s[i].toNat : Int) == 101) = decide (s[i].toNat = 101) := by rw [Bool.eq_iff_iff, beq_iff_eq, decide_eq_true_eq]; omega
      have e2 : ((s[i].toNat : Int) == 69) = decide (s[i].toNat = 69) := by rw [Bool.eq_iff_iff, beq_iff_eq, decide_eq_true_eq]; omega
      by_cases h2 : i + 1 < s.length
      · have d2 : decide ((i : Int) + 1 < (s.length : Int)) = true := decide_eq_true (by omega)
        have x2 := get_str h2
        rw [getD_of h2] at hpw
        by_cases q2 : s[i + 1].toNat = 43 ∨ s[i + 1].toNat = 45
        · rw [if_pos ⟨h2, q2⟩] at hpw
          by_cases c3 : digs (s.drop (i + 2)) = 0
          · have d3 : decide (0 < (digs (s.drop (i + 2)) : Int)) = false := decide_eq_false (by omega)
            rw [if_pos c3] at hpw
            rw [if_pos hpw]
            rcases q with q | q <;> rcases q2 with q2 | q2 <;> rw [q] at e1 e2
            all_goals
              have u1 : ((s[i + 1].toNat : Int) == 43) = decide (s[i + 1].toNat = 43) := by rw [Bool.eq_iff_iff, beq_iff_eq, decide_eq_true_eq]; omega
              have u2 : ((s[i + 1].toNat : Int) == 45) = decide (s[i + 1].toNat = 45) := by rw [Bool.eq_iff_iff, beq_iff_eq, decide_eq_true_eq]; omega
              rw [q2] at u1 u2
              repeat' first
                | refine .seq ?_ | refine .rg ?_ | refine .rd ?_ | refine .block ?_ | refine .scope ?_ | refine .skip ?_ | refine .label ?_ | refine .exit ?_ | refine .ret ?_
                | refine .ct ?_ | refine .cf ?_ | refine .cy ?_ | refine .cn ?_ | (refine .cond rfl ?_ ?_ <;> intro hc)
                | refine A.nil_seq ?_ | refine .nl ?_ | refine .dd ?_ | refine .ys ?_ | refine .no ?_ | (refine A.guard rfl ?_ ?_ <;> intro hc)
                | refine .lb ?_ | refine .ln ?_ | refine .ls ?_ | refine .pv ?_ | refine .ix ?_ | refine .pt ?_ | refine .pf ?_ | refine .bx ?_ | refine .al ?_ | refine .st ?_ | refine .ad ?_ | refine .sb ?_ | refine .mf ?_ | refine .cl ?_ | refine .cw ?_ | refine .ck ?_
                | refine A.index_s (j := i) rfl rfl rfl rfl rfl (by assumption) ?_ | refine A.index_s (j := i + 1) rfl rfl rfl rfl rfl (by assumption) ?_ | fail
              all_goals first
                | exact Fin.two rfl rfl (Weak.refl _)
                | (exfalso; simp_all; done)
          · have d3 : decide (0 < (digs (s.drop (i + 2)) : Int)) = true := decide_eq_true (by omega)
            rw [if_neg c3] at hpw
            rw [if_neg (by omega), hpw]
            rcases q with q | q <;> rcases q2 with q2 | q2 <;> rw [q] at e1 e2
            all_goals
              have u1 : ((s[i + 1].toNat : Int) == 43) = decide (s[i + 1].toNat = 43) := by rw [Bool.eq_iff_iff, beq_iff_eq, decide_eq_true_eq]; omega
              have u2 : ((s[i + 1].toNat : Int) == 45) = decide (s[i + 1].toNat = 45) := by rw [Bool.eq_iff_iff, beq_iff_eq, decide_eq_true_eq]; omega
              rw [q2] at u1 u2
              repeat' first
                | refine .seq ?_ | refine .rg ?_ | refine .rd ?_ | refine .block ?_ | refine .scope ?_ | refine .skip ?_ | refine .label ?_ | refine .exit ?_ | refine .ret ?_
                | refine .ct ?_ | refine .cf ?_ | refine .cy ?_ | refine .cn ?_ | (refine .cond rfl ?_ ?_ <;> intro hc)
                | refine A.nil_seq ?_ | refine .nl ?_ | refine .dd ?_ | refine .ys ?_ | refine .no ?_ | (refine A.guard rfl ?_ ?_ <;> intro hc)
                | refine .lb ?_ | refine .ln ?_ | refine .ls ?_ | refine .pv ?_ | refine .ix ?_ | refine .pt ?_ | refine .pf ?_ | refine .bx ?_ | refine .al ?_ | refine .st ?_ | refine .ad ?_ | refine .sb ?_ | refine .mf ?_ | refine .cl ?_ | refine .cw ?_ | refine .ck ?_
                | refine A.index_s (j := i) rfl rfl rfl rfl rfl (by assumption) ?_ | refine A.index_s (j := i + 1) rfl rfl rfl rfl rfl (by assumption) ?_ | fail
              all_goals first
                | (refine Fin.two rfl rfl (Weak.eq ?_); congr 2; congr 1; omega)
                | (exfalso; simp_all; done)
        · rw [if_neg (fun h => q2 h.2)] at hpw
          have u1 : ((s[i + 1].toNat : Int) == 43) = false := beq_no (by omega)
          have u2 : ((s[i + 1].toNat : Int) == 45) = false := beq_no (by omega)
          by_cases c3 : digs (s.drop (i + 1)) = 0
          · have d3 : decide (0 < (digs (s.drop (i + 1)) : Int)) = false := decide_eq_false (by omega)
            rw [if_pos c3] at hpw
            rw [if_pos hpw]
            rcases q with q | q <;> rw [q] at e1 e2
            all_goals
              repeat' first
                | refine .seq ?_ | refine .rg ?_ | refine .rd ?_ | refine .block ?_ | refine .scope ?_ | refine .skip ?_ | refine .label ?_ | refine .exit ?_ | refine .ret ?_
                | refine .ct ?_ | refine .cf ?_ | refine .cy ?_ | refine .cn ?_ | (refine .cond rfl ?_ ?_ <;> intro hc)
                | refine A.nil_seq ?_ | refine .nl ?_ | refine .dd ?_ | refine .ys ?_ | refine .no ?_ | (refine A.guard rfl ?_ ?_ <;> intro hc)
                | refine .lb ?_ | refine .ln ?_ | refine .ls ?_ | refine .pv ?_ | refine .ix ?_ | refine .pt ?_ | refine .pf ?_ | refine .bx ?_ | refine .al ?_ | refine .st ?_ | refine .ad ?_ | refine .sb ?_ | refine .mf ?_ | refine .cl ?_ | refine .cw ?_ | refine .ck ?_
                | refine A.index_s (j := i) rfl rfl rfl rfl rfl (by assumption) ?_ | refine A.index_s (j := i + 1) rfl rfl rfl rfl rfl (by assumption) ?_ | fail
              all_goals first
                | exact Fin.two rfl rfl (Weak.refl _)
                | (exfalso; simp_all; done)
          · have d3 : decide (0 < (digs (s.drop (i + 1)) : Int)) = true := decide_eq_true (by omega)
            rw [if_neg c3] at hpw
            rw [if_neg (by omega), hpw]
            rcases q with q | q <;> rw [q] at e1 e2
            all_goals
              repeat' first
                | refine .seq ?_ | refine .rg ?_ | refine .rd ?_ | refine .block ?_ | refine .scope ?_ | refine .skip ?_ | refine .label ?_ | refine .exit ?_ | refine .ret ?_
                | refine .ct ?_ | refine .cf ?_ | refine .cy ?_ | refine .cn ?_ | (refine .cond rfl ?_ ?_ <;> intro hc)
                | refine A.nil_seq ?_ | refine .nl ?_ | refine .dd ?_ | refine .ys ?_ | refine .no ?_ | (refine A.guard rfl ?_ ?_ <;> intro hc)
                | refine .lb ?_ | refine .ln ?_ | refine .ls ?_ | refine .pv ?_ | refine .ix ?_ | refine .pt ?_ | refine .pf ?_ | refine .bx ?_ | refine .al ?_ | refine .st ?_ | refine .ad ?_ | refine .sb ?_ | refine .mf ?_ | refine .cl ?_ | refine .cw ?_ | refine .ck ?_
                | refine A.index_s (j := i) rfl rfl rfl rfl rfl (by assumption) ?_ | refine A.index_s (j := i + 1) rfl rfl rfl rfl rfl (by assumption) ?_ | fail
              all_goals first
                | (refine Fin.two rfl rfl (Weak.eq ?_); congr 2; congr 1; omega)
                | (exfalso; simp_all; done)
      · have d2 : decide ((i : Int) + 1 < (s.length : Int)) = false := decide_eq_false (by omega)
        have c3 : digs (s.drop (i + 1)) = 0 := by rw [List.drop_eq_nil_of_le (by omega)]; rfl
        have d3 : decide (0 < (digs (s.drop (i + 1)) : Int)) = false := decide_eq_false (by omega)
        rw [if_neg (fun h => h2 h.1), if_pos c3] at hpw
        rw [if_pos hpw]
        rcases q with q | q <;> rw [q] at e1 e2
        all_goals
          repeat' first
            | refine .seq ?_ | refine .rg ?_ | refine .rd ?_ | refine .block ?_ | refine .scope ?_ | refine .skip ?_ | refine .label ?_ | refine .exit ?_ | refine .ret ?_
            | refine .ct ?_ | refine .cf ?_ | refine .cy ?_ | refine .cn ?_ | (refine .cond rfl ?_ ?_ <;> intro hc)
            | refine A.nil_seq ?_ | refine .nl ?_ | refine .dd ?_ | refine .ys ?_ | refine .no ?_ | (refine A.guard rfl ?_ ?_ <;> intro hc)
            | refine .lb ?_ | refine .ln ?_ | refine .ls ?_ | refine .pv ?_ | refine .ix ?_ | refine .pt ?_ | refine .pf ?_ | refine .bx ?_ | refine .al ?_ | refine .st ?_ | refine .ad ?_ | refine .sb ?_ | refine .mf ?_ | refine .cl ?_ | refine .cw ?_ | refine .ck ?_
            | refine A.index_s (j := i) rfl rfl rfl rfl rfl (by assumption) ?_ | fail
          all_goals first
            | exact Fin.two rfl rfl (Weak.refl _)
            | (exfalso; simp_all; done)
    · rw [if_neg q] at hpw
      have e1 : ((s[i].toNat : Int) == 101) = false := beq_no (by omega)
      have e2 : ((s[i].toNat : Int) == 69) = false := beq_no (by omega)
      rw [if_pos hpw]
      repeat' first
        | refine .seq ?_ | refine .rg ?_ | refine .rd ?_ | refine .block ?_ | refine .scope ?_ | refine .skip ?_ | refine .label ?_ | refine .exit ?_ | refine .ret ?_
        | refine .ct ?_ | refine .cf ?_ | refine .cy ?_ | refine .cn ?_ | (refine .cond rfl ?_ ?_ <;> intro hc)
        | refine A.nil_seq ?_ | refine .nl ?_ | refine .dd ?_ | refine .ys ?_ | refine .no ?_ | (refine A.guard rfl ?_ ?_ <;> intro hc)
        | refine .lb ?_ | refine .ln ?_ | refine .ls ?_ | refine .pv ?_ | refine .ix ?_ | refine .pt ?_ | refine .pf ?_ | refine .bx ?_ | refine .al ?_ | refine .st ?_ | refine .ad ?_ | refine .sb ?_ | refine .mf ?_ | refine .cl ?_ | refine .cw ?_ | refine .ck ?_
        | refine A.index_s (j := i) rfl rfl rfl rfl rfl (by assumption) ?_ | fail
      exact Fin.two rfl rfl (Weak.refl _)
  · have d1 : decide ((i : Int) < (s.length : Int)) = false := decide_eq_false (by omega)
    rw [if_pos (powN_end (by omega))]
    repeat' first
      | refine .seq ?_ | refine .rg ?_ | refine .rd ?_ | refine .block ?_ | refine .scope ?_ | refine .skip ?_ | refine .label ?_ | refine .exit ?_ | refine .ret ?_
      | refine .ct ?_ | refine .cf ?_ | refine .cy ?_ | refine .cn ?_ | (refine .cond rfl ?_ ?_ <;> intro hc)
      | refine A.nil_seq ?_ | refine .nl ?_ | refine .dd ?_ | refine .ys ?_ | refine .no ?_ | (refine A.guard rfl ?_ ?_ <;> intro hc)
      | refine .lb ?_ | refine .ln ?_ | refine .ls ?_ | refine .pv ?_ | refine .ix ?_ | refine .pt ?_ | refine .pf ?_ | refine .bx ?_ | refine .al ?_ | refine .st ?_ | refine .ad ?_ | refine .sb ?_ | refine .mf ?_ | refine .cl ?_ | refine .cw ?_ | refine .ck ?_ | fail
    exact Fin.two rfl rfl (Weak.refl _)
end Go.Proofs.YtpidjkihngiaoaaGreatDoor
namespace Go.Proofs.YtpidjkihngiaoaaGreatDoor
open Go Go.Av
set_option maxRecDepth 100000
set_option maxHeartbeats 16000000
set_option linter.unusedVariables false
set_option linter.unusedSimpArgs false
attribute [local irreducible] HCode AOps PFn AFn Av.Step TStep

theorem pfx_cons (d c : UInt8) (r : Str) : pfx [d] (c :: r) = (c == d) := by rw [Bool.eq_iff_iff]; simp [pfx]
theorem num2 (s : Str) (i : Nat) (hs : s.length ≤ 4611686018427387000) (hi : i ≤ s.length) :
    HCode Tryz.prog Tryz.f150.ntmps [] (tailOf 7 (bodyOf Tryz.f150)) (fin [2, 3] (fun e _ => ∃ v, e = .ret v ∧ Weak v (.tup [.int .i64 (expN s (dotN s i).1 (dotN s i).2).1, .int .i64 (expN s (dotN s i).1 (dotN s i).2).2])))
      [(0, .str s), (4, .int .i64 (i : Int)), (6, .int .i64 3)] ⟨[], []⟩ := by
  unfold dotN
  by_cases h1 : i < s.length
  · have d1 : decide ((i : Int) < (s.length : Int)) = true := decide_eq_true (by omega)
    have x1 := get_str h1
    have hr1 := rRun s (i + 1) (by omega) (by omega)
    have hle1 := digs_le (s.drop (i + 1))
    rw [List.length_drop] at hle1
    have hpx : pfx [46] (s.drop i) = (s[i] == 46) := by
      rw [List.drop_eq_getElem_cons h1, pfx_cons]
    by_cases q : s[i] = 46
    · have e1 : ((s[i].toNat : Int) == 46) = true := by rw [q]; rfl
      rw [hpx, if_pos (by simpa using q)]
      by_cases c3 : digs (s.drop (i + 1)) = 0
      · have d3 : decide (0 < (digs (s.drop (i + 1)) : Int)) = false := decide_eq_false (by omega)
        rw [if_pos c3]
        have hend := num3 s i 3 hs hi
        repeat' first
          | (refine HCode.weaken hend ?_; exact ⟨rfl, rfl, rfl, trivial⟩)
          | refine .seq ?_ | refine .rg ?_ | refine .rd ?_ | refine .block ?_ | refine .scope ?_ | refine .skip ?_ | refine .label ?_ | refine .exit ?_ | refine .ret ?_
          | refine .ct ?_ | refine .cf ?_ | refine .cy ?_ | refine .cn ?_ | (refine .cond rfl ?_ ?_ <;> intro hc)
          | refine A.nil_seq ?_ | refine .nl ?_ | refine .dd ?_ | refine .ys ?_ | refine .no ?_ | (refine A.guard rfl ?_ ?_ <;> intro hc)
          | refine .lb ?_ | refine .ln ?_ | refine .ls ?_ | refine .pv ?_ | refine .ix ?_ | refine .pt ?_ | refine .pf ?_ | refine .bx ?_ | refine .al ?_ | refine .st ?_ | refine .ad ?_ | refine .sb ?_ | refine .mf ?_ | refine .cl ?_ | refine .cw ?_ | refine .ck ?_
          | refine A.index_s (j := i) rfl rfl rfl rfl rfl (by assumption) ?_ | fail
      · have d3 : decide (0 < (digs (s.drop (i + 1)) : Int)) = true := decide_eq_true (by omega)
        rw [if_neg c3]
        have hend := num3 s (i + 1 + digs (s.drop (i + 1))) 4 hs (by omega)
        repeat' first
          | (refine HCode.weaken hend ?_; exact ⟨rfl, rfl, rfl, trivial⟩)
          | refine .seq ?_ | refine .rg ?_ | refine .rd ?_ | refine .block ?_ | refine .scope ?_ | refine .skip ?_ | refine .label ?_ | refine .exit ?_ | refine .ret ?_
          | refine .ct ?_ | refine .cf ?_ | refine .cy ?_ | refine .cn ?_ | (refine .cond rfl ?_ ?_ <;> intro hc)
          | refine A.nil_seq ?_ | refine .nl ?_ | refine .dd ?_ | refine .ys ?_ | refine .no ?_ | (refine A.guard rfl ?_ ?_ <;> intro hc)
          | refine .lb ?_ | refine .ln ?_ | refine .ls ?_ | refine .pv ?_ | refine .ix ?_ | refine .pt ?_ | refine .pf ?_ | refine .bx ?_ | refine .al ?_ | refine .st ?_ | refine .ad ?_ | refine .sb ?_ | refine .mf ?_ | refine .cl ?_ | refine .cw ?_ | refine .ck ?_
          | refine A.index_s (j := i) rfl rfl rfl rfl rfl (by assumption) ?_ | fail
    · have e1 : ((s[i].toNat : Int) == 46) = false := beq_no (fun h => q (UInt8.toNat_inj.1 (by
        have : s[i].toNat = 46 := by omega
        rw [this]; rfl)))
      rw [hpx, if_neg (by simpa using q)]
      have hend := num3 s i 3 hs hi
      repeat' first
        | (refine HCode.weaken hend ?_; exact ⟨rfl, rfl, rfl, trivial⟩)
        | refine .seq ?_ | refine .rg ?_ | refine .rd ?_ | refine .block ?_ | refine .scope ?_ | refine .skip ?_ | refine .label ?_ | refine .exit ?_ | refine .ret ?_
        | refine .ct ?_ | refine .cf ?_ | refine .cy ?_ | refine .cn ?_ | (refine .cond rfl ?_ ?_ <;> intro hc)
        | refine A.nil_seq ?_ | refine .nl ?_ | refine .dd ?_ | refine .ys ?_ | refine .no ?_ | (refine A.guard rfl ?_ ?_ <;> intro hc)
        | refine .lb ?_ | refine .ln ?_ | refine .ls ?_ | refine .pv ?_ | refine .ix ?_ | refine .pt ?_ | refine .pf ?_ | refine .bx ?_ | refine .al ?_ | refine .st ?_ | refine .ad ?_ | refine .sb ?_ | refine .mf ?_ | refine .cl ?_ | refine .cw ?_ | refine .ck ?_
        | refine A.index_s (j := i) rfl rfl rfl rfl rfl (by assumption) ?_ | fail
  · have d1 : decide ((i : Int) < (s.length : Int)) = false := decide_eq_false (by omega)
    have hpx : pfx [46] (s.drop i) = false := by rw [List.drop_eq_nil_of_le (by omega)]; rfl
    rw [hpx, if_neg (by decide)]
    have hend := num3 s i 3 hs hi
    repeat' first
      | (refine HCode.weaken hend ?_; exact ⟨rfl, rfl, rfl, trivial⟩)
      | refine .seq ?_ | refine .rg ?_ | refine .rd ?_ | refine .block ?_ | refine .scope ?_ | refine .skip ?_ | refine .label ?_ | refine .exit ?_ | refine .ret ?_
      | refine .ct ?_ | refine .cf ?_ | refine .cy ?_ | refine .cn ?_ | (refine .cond rfl ?_ ?_ <;> intro hc)
      | refine A.nil_seq ?_ | refine .nl ?_ | refine .dd ?_ | refine .ys ?_ | refine .no ?_ | (refine A.guard rfl ?_ ?_ <;> intro hc)
      | refine .lb ?_ | refine .ln ?_ | refine .ls ?_ | refine .pv ?_ | refine .ix ?_ | refine .pt ?_ | refine .pf ?_ | refine .bx ?_ | refine .al ?_ | refine .st ?_ | refine .ad ?_ | refine .sb ?_ | refine .mf ?_ | refine .cl ?_ | refine .cw ?_ | refine .ck ?_ | fail
theorem numK_eq (s : Str) : numK s = if wholeN s = 0 then (0, 0) else expN s (dotN s (wholeN s)).1 (dotN s (wholeN s)).2 := by
  unfold numK expN
  split
  · rfl
  · split <;> rfl
theorem rnumeral (s : Str) (hs : s.length ≤ 4611686018427387000) : PFn Tryz.prog 150 [.str s] (.tup [.int .i64 (numK s).1, .int .i64 (numK s).2]) := by
  refine AFn.plain rfl rfl (AFn.enter [2, 3] Tryz.func150 rfl rfl rfl rfl rfl (by decide) ?_)
  rw [numK_eq]
  have hle := wholeN_le s
  by_cases h0 : s.length = 0
  · obtain rfl := List.eq_nil_of_length_eq_zero h0
    have hr := rRun [] 0 (by simp) (by simp)
    have e0 : digs (([] : Str).drop 0) = 0 := rfl
    rw [e0] at hr
    repeat' first
      | refine .seq ?_ | refine .rg ?_ | refine .rd ?_ | refine .block ?_ | refine .scope ?_ | refine .skip ?_ | refine .label ?_ | refine .exit ?_ | refine .ret ?_
      | refine .ct ?_ | refine .cf ?_ | refine .cy ?_ | refine .cn ?_ | (refine .cond rfl ?_ ?_ <;> intro hc)
      | refine A.nil_seq ?_ | refine .nl ?_ | refine .dd ?_ | refine .ys ?_ | refine .no ?_ | (refine A.guard rfl ?_ ?_ <;> intro hc)
      | refine .lb ?_ | refine .ln ?_ | refine .ls ?_ | refine .pv ?_ | refine .ix ?_ | refine .pt ?_ | refine .pf ?_ | refine .bx ?_ | refine .al ?_ | refine .st ?_ | refine .ad ?_ | refine .sb ?_ | refine .mf ?_ | refine .cl ?_ | refine .cw ?_ | refine .ck ?_ | fail
    exact Fin.two rfl rfl (Weak.refl _)
  · have h0' : 0 < s.length := by omega
    have d0 : decide ((0 : Int) < (s.length : Int)) = true := decide_eq_true (by omega)
    have x0 := get_str h0'
    have hpx : pfx [45] s = (s[0] == 45) := by
      cases s with
      | nil => simp at h0'
      | cons c s => rw [Bool.eq_iff_iff]; simp [pfx]
    have main : ∀ i0 : Nat, i0 ≤ s.length → wholeN s = wholeAt s i0 → (digs (s.drop i0) = 0 ∨ ((digs (s.drop i0) : Int) ≠ 0 ∧ ∃ h : i0 < s.length, wholeN s = if s[i0] = 48 then i0 + 1 else i0 + digs (s.drop i0))) := fun i0 hi hw => by
      by_cases c : digs (s.drop i0) = 0
      · exact .inl c
      · have hd := digs_le (s.drop i0)
        rw [List.length_drop] at hd
        have hlt : i0 < s.length := by omega
        refine .inr ⟨by omega, hlt, ?_⟩
        rw [hw, wholeAt, if_neg c, get_str hlt]
        simp
    by_cases q : s[0] = 45
    · have e1 : ((s[0].toNat : Int) == 45) = true := by rw [q]; rfl
      have hw : wholeN s = wholeAt s 1 := by rw [wholeN, hpx, if_pos (by simpa using q)]
      have hr := rRun s 1 (by omega) (by omega)
      have hd := digs_le (s.drop 1)
      rw [List.length_drop] at hd
      rcases main 1 (by omega) hw with c | ⟨c, hlt, hw2⟩
      · have e2 : ((digs (s.drop 1) : Int) == 0) = true := beq_yes (by omega)
        rw [hw, wholeAt, if_pos c, if_pos rfl]
        repeat' first
          | refine .seq ?_ | refine .rg ?_ | refine .rd ?_ | refine .block ?_ | refine .scope ?_ | refine .skip ?_ | refine .label ?_ | refine .exit ?_ | refine .ret ?_
          | refine .ct ?_ | refine .cf ?_ | refine .cy ?_ | refine .cn ?_ | (refine .cond rfl ?_ ?_ <;> intro hc)
          | refine A.nil_seq ?_ | refine .nl ?_ | refine .dd ?_ | refine .ys ?_ | refine .no ?_ | (refine A.guard rfl ?_ ?_ <;> intro hc)
          | refine .lb ?_ | refine .ln ?_ | refine .ls ?_ | refine .pv ?_ | refine .ix ?_ | refine .pt ?_ | refine .pf ?_ | refine .bx ?_ | refine .al ?_ | refine .st ?_ | refine .ad ?_ | refine .sb ?_ | refine .mf ?_ | refine .cl ?_ | refine .cw ?_ | refine .ck ?_
          | refine A.index_s (j := 0) rfl rfl rfl rfl rfl (by assumption) ?_ | fail
        exact Fin.two rfl rfl (Weak.refl _)
      · have e2 : ((digs (s.drop 1) : Int) == 0) = false := beq_no c
        have x2 := get_str hlt
        by_cases z : s[1] = 48
        · have e3 : ((s[1].toNat : Int) == 48) = true := by rw [z]; rfl
          rw [if_pos z] at hw2
          have hend := num2 s 2 hs (by omega)
          rw [hw2, if_neg (by omega)]
          repeat' first
            | (refine HCode.weaken hend ?_; exact ⟨rfl, rfl, rfl, trivial⟩)
            | refine .seq ?_ | refine .rg ?_ | refine .rd ?_ | refine .block ?_ | refine .scope ?_ | refine .skip ?_ | refine .label ?_ | refine .exit ?_ | refine .ret ?_
            | refine .ct ?_ | refine .cf ?_ | refine .cy ?_ | refine .cn ?_ | (refine .cond rfl ?_ ?_ <;> intro hc)
            | refine A.nil_seq ?_ | refine .nl ?_ | refine .dd ?_ | refine .ys ?_ | refine .no ?_ | (refine A.guard rfl ?_ ?_ <;> intro hc)
            | refine .lb ?_ | refine .ln ?_ | refine .ls ?_ | refine .pv ?_ | refine .ix ?_ | refine .pt ?_ | refine .pf ?_ | refine .bx ?_ | refine .al ?_ | refine .st ?_ | refine .ad ?_ | refine .sb ?_ | refine .mf ?_ | refine .cl ?_ | refine .cw ?_ | refine .ck ?_
            | refine A.index_s (j := 0) rfl rfl rfl rfl rfl (by assumption) ?_ | refine A.index_s (j := 1) rfl rfl rfl rfl rfl (by assumption) ?_ | fail
        · have e3 : ((s[1].toNat : Int) == 48) = false := beq_no (fun h => z (UInt8.toNat_inj.1 (by
            have : s[1].toNat = 48 := by omega
            rw [this]; rfl)))
          rw [if_neg z] at hw2
          have hend := num2 s (1 + digs (s.drop 1)) hs (by omega)
          rw [hw2, if_neg (by omega)]
          repeat' first
            | (refine HCode.weaken hend ?_; exact ⟨rfl, rfl, rfl, trivial⟩)
            | refine .seq ?_ | refine .rg ?_ | refine .rd ?_ | refine .block ?_ | refine .scope ?_ | refine .skip ?_ | refine .label ?_ | refine .exit ?_ | refine .ret ?_
            | refine .ct ?_ | refine .cf ?_ | refine .cy ?_ | refine .cn ?_ | (refine .cond rfl ?_ ?_ <;> intro hc)
            | refine A.nil_seq ?_ | refine .nl ?_ | refine .dd ?_ | refine .ys ?_ | refine .no ?_ | (refine A.guard rfl ?_ ?_ <;> intro hc)
            | refine .lb ?_ | refine .ln ?_ | refine .ls ?_ | refine .pv ?_ | refine .ix ?_ | refine .pt ?_ | refine .pf ?_ | refine .bx ?_ | refine .al ?_ | refine .st ?_ | refine .ad ?_ | refine .sb ?_ | refine .mf ?_ | refine .cl ?_ | refine .cw ?_ | refine .ck ?_
            | refine A.index_s (j := 0) rfl rfl rfl rfl rfl (by assumption) ?_ | refine A.index_s (j := 1) rfl rfl rfl rfl rfl (by assumption) ?_ | fail
    · have e1 : ((s[0].toNat : Int) == 45) = false := beq_no (fun h => q (UInt8.toNat_inj.1 (by
        have : s[0].toNat = 45 := by omega
        rw [this]; rfl)))
      have hw : wholeN s = wholeAt s 0 := by rw [wholeN, hpx, if_neg (by simpa using q)]
      have hr := rRun s 0 (by omega) (by omega)
      have hd := digs_le (s.drop 0)
      rw [List.length_drop] at hd
      rcases main 0 (by omega) hw with c | ⟨c, hlt, hw2⟩
      · have e2 : ((digs (s.drop 0) : Int) == 0) = true := beq_yes (by omega)
        rw [hw, wholeAt, if_pos c, if_pos rfl]
        repeat' first
          | refine .seq ?_ | refine .rg ?_ | refine .rd ?_ | refine .block ?_ | refine .scope ?_ | refine .skip ?_ | refine .label ?_ | refine .exit ?_ | refine .ret ?_
          | refine .ct ?_ | refine .cf ?_ | refine .cy ?_ | refine .cn ?_ | (refine .cond rfl ?_ ?_ <;> intro hc)
          | refine A.nil_seq ?_ | refine .nl ?_ | refine .dd ?_ | refine .ys ?_ | refine .no ?_ | (refine A.guard rfl ?_ ?_ <;> intro hc)
          | refine .lb ?_ | refine .ln ?_ | refine .ls ?_ | refine .pv ?_ | refine .ix ?_ | refine .pt ?_ | refine .pf ?_ | refine .bx ?_ | refine .al ?_ | refine .st ?_ | refine .ad ?_ | refine .sb ?_ | refine .mf ?_ | refine .cl ?_ | refine .cw ?_ | refine .ck ?_
          | refine A.index_s (j := 0) rfl rfl rfl rfl rfl (by assumption) ?_ | fail
        exact Fin.two rfl rfl (Weak.refl _)
      · have e2 : ((digs (s.drop 0) : Int) == 0) = false := beq_no c
        by_cases z : s[0] = 48
        · have e3 : ((s[0].toNat : Int) == 48) = true := by rw [z]; rfl
          rw [if_pos z] at hw2
          have hend := num2 s 1 hs (by omega)
          rw [hw2, if_neg (by omega)]
          repeat' first
            | (refine HCode.weaken hend ?_; exact ⟨rfl, rfl, rfl, trivial⟩)
            | refine .seq ?_ | refine .rg ?_ | refine .rd ?_ | refine .block ?_ | refine .scope ?_ | refine .skip ?_ | refine .label ?_ | refine .exit ?_ | refine .ret ?_
            | refine .ct ?_ | refine .cf ?_ | refine .cy ?_ | refine .cn ?_ | (refine .cond rfl ?_ ?_ <;> intro hc)
            | refine A.nil_seq ?_ | refine .nl ?_ | refine .dd ?_ | refine .ys ?_ | refine .no ?_ | (refine A.guard rfl ?_ ?_ <;> intro hc)
            | refine .lb ?_ | refine .ln ?_ | refine .ls ?_ | refine .pv ?_ | refine .ix ?_ | refine .pt ?_ | refine .pf ?_ | refine .bx ?_ | refine .al ?_ | refine .st ?_ | refine .ad ?_ | refine .sb ?_ | refine .mf ?_ | refine .cl ?_ | refine .cw ?_ | refine .ck ?_
            | refine A.index_s (j := 0) rfl rfl rfl rfl rfl (by assumption) ?_ | fail
        · have e3 : ((s[0].toNat : Int) == 48) = false := beq_no (fun h => z (UInt8.toNat_inj.1 (by
            have : s[0].toNat = 48 := by omega
            rw [this]; rfl)))
          rw [if_neg z] at hw2
          have hend := num2 s (0 + digs (s.drop 0)) hs (by omega)
          rw [hw2, if_neg (by omega)]
          repeat' first
            | (refine HCode.weaken hend ?_; exact ⟨rfl, rfl, rfl, trivial⟩)
            | refine .seq ?_ | refine .rg ?_ | refine .rd ?_ | refine .block ?_ | refine .scope ?_ | refine .skip ?_ | refine .label ?_ | refine .exit ?_ | refine .ret ?_
            | refine .ct ?_ | refine .cf ?_ | refine .cy ?_ | refine .cn ?_ | (refine .cond rfl ?_ ?_ <;> intro hc)
            | refine A.nil_seq ?_ | refine .nl ?_ | refine .dd ?_ | refine .ys ?_ | refine .no ?_ | (refine A.guard rfl ?_ ?_ <;> intro hc)
            | refine .lb ?_ | refine .ln ?_ | refine .ls ?_ | refine .pv ?_ | refine .ix ?_ | refine .pt ?_ | refine .pf ?_ | refine .bx ?_ | refine .al ?_ | refine .st ?_ | refine .ad ?_ | refine .sb ?_ | refine .mf ?_ | refine .cl ?_ | refine .cw ?_ | refine .ck ?_
            | refine A.index_s (j := 0) rfl rfl rfl rfl rfl (by assumption) ?_ | fail
theorem rNumber (s : Str) (hs : s.length ≤ 4611686018427387000) : PFn Tryz.prog 95 [.str s] (.int .i64 (numOf s)) := by
  refine AFn.plain rfl rfl (AFn.enter [2] Tryz.func95 rfl rfl rfl rfl rfl (by decide) ?_)
  have hn := rnumeral s hs
  unfold numOf
  by_cases c : (numK s).1 = s.length
  · have e : (((numK s).1 : Int) != (s.length : Int)) = false := by rw [c]; simp
    repeat' first
      | refine .seq ?_ | refine .rg ?_ | refine .rd ?_ | refine .block ?_ | refine .scope ?_ | refine .skip ?_ | refine .label ?_ | refine .exit ?_ | refine .ret ?_
      | refine .ct ?_ | refine .cf ?_ | refine .cy ?_ | refine .cn ?_ | (refine .cond rfl ?_ ?_ <;> intro hc)
      | refine A.nil_seq ?_ | refine .nl ?_ | refine .dd ?_ | refine .ys ?_ | refine .no ?_ | (refine A.guard rfl ?_ ?_ <;> intro hc)
      | refine .lb ?_ | refine .ln ?_ | refine .ls ?_ | refine .pv ?_ | refine .ix ?_ | refine .pt ?_ | refine .pf ?_ | refine .bx ?_ | refine .al ?_ | refine .st ?_ | refine .ad ?_ | refine .sb ?_ | refine .mf ?_ | refine .cl ?_ | refine .cw ?_ | refine .ck ?_ | fail
    refine Fin.ret1 rfl (Weak.eq ?_)
    rw [if_pos c]
  · have e : (((numK s).1 : Int) != (s.length : Int)) = true := by simp; omega
    repeat' first
      | refine .seq ?_ | refine .rg ?_ | refine .rd ?_ | refine .block ?_ | refine .scope ?_ | refine .skip ?_ | refine .label ?_ | refine .exit ?_ | refine .ret ?_
      | refine .ct ?_ | refine .cf ?_ | refine .cy ?_ | refine .cn ?_ | (refine .cond rfl ?_ ?_ <;> intro hc)
      | refine A.nil_seq ?_ | refine .nl ?_ | refine .dd ?_ | refine .ys ?_ | refine .no ?_ | (refine A.guard rfl ?_ ?_ <;> intro hc)
      | refine .lb ?_ | refine .ln ?_ | refine .ls ?_ | refine .pv ?_ | refine .ix ?_ | refine .pt ?_ | refine .pf ?_ | refine .bx ?_ | refine .al ?_ | refine .st ?_ | refine .ad ?_ | refine .sb ?_ | refine .mf ?_ | refine .cl ?_ | refine .cw ?_ | refine .ck ?_ | fail
    refine Fin.ret1 rfl (Weak.eq ?_)
    rw [if_neg c]
end Go.Proofs.YtpidjkihngiaoaaGreatDoor
namespace Go.Av
open Go
set_option linter.unusedSectionVars false
set_option linter.unusedVariables false
section
variable [Globals]
variable {P : Program} {all : Array Oper} {draw : Bool} {K : AX → Slots → St → Prop} {rest : List Oper} {acc : List Tag} {s : Slots} {σ : St} {d : Tmp} {ty : TypeId} {pos : String} {af : Array Edge}
theorem A.neg {x : Operand} {T : TypeId} {k : IntKind} {m r : Int} (h : ev? s x = some (.int k m)) (hr : k.wrap (0 - m) = r) (kk : AOps P all draw K rest (.pure :: acc) ((d, .int k r) :: s) σ) :
    AOps P all draw K (⟨some d, .unOp .neg T x, ty, pos, af, none⟩ :: rest) acc s σ :=
  A.step rfl (tpure fun g w a ho => by
    have h1 := ho x (by simp [Op.operands])
    rw [ev_of h] at h1
    have h1' : a.eval x = .int k m := h1
    refine ⟨.int k r, ?_, rfl⟩
    subst hr
    simp [execOp, h1', Op.unary, Op.intArith]) kk
end
end Go.Av
namespace Go.Proofs.YtpidjkihngiaoaaGreatDoor
open Go Go.Av
set_option maxRecDepth 100000
set_option maxHeartbeats 16000000
set_option linter.unusedVariables false
set_option linter.unusedSimpArgs false
attribute [local irreducible] HCode AOps PFn AFn Av.Step TStep

theorem good_step {l : Str} (h : l ≠ []) : good l = if (codeL l).2 = 0 then false else good (l.drop (codeL l).2) := by
  unfold good codeL
  rw [Lib.validD_step l h]
  have hw := Lib.decodeL_width l
  by_cases c : (Lib.decodeL l).1 = 65533 ∧ (Lib.decodeL l).2 = 1
  · have e : Lib.decodeL l = (65533, 1) := Prod.ext c.1 c.2
    rw [if_pos c, if_pos e]; rfl
  · have e : Lib.decodeL l ≠ (65533, 1) := fun h => c (by rw [h]; exact ⟨rfl, rfl⟩)
    rw [if_neg c, if_neg e, if_neg (by omega)]
theorem codeL_le {l : Str} (h : l ≠ []) : (codeL l).2 ≤ l.length ∧ (codeL l).1 ≤ 1114111 := by
  unfold codeL
  split
  · simp
  · exact ⟨Lib.decodeL_le l h, Lib.decodeL_rune l⟩
theorem rCodes (s : Str) (hs : s.length ≤ 1048576) : PFn Tryz.prog 151 [.str s] (.tup [.undef, .bool (good s)]) := by
  refine AFn.plain rfl rfl (AFn.enter [2, 3] Tryz.func151 rfl rfl rfl rfl rfl (by decide) ?_)
  repeat' first
    | refine .seq ?_ | refine .rg ?_ | refine .rd ?_ | refine .block ?_ | refine .scope ?_ | refine .skip ?_ | refine .label ?_ | refine .exit ?_ | refine .ret ?_
    | refine .ct ?_ | refine .cf ?_ | refine .cy ?_ | refine .cn ?_ | (refine .cond rfl ?_ ?_ <;> intro hc)
    | refine A.nil_seq ?_ | refine .nl ?_ | refine .dd ?_ | refine .ys ?_ | refine .no ?_ | (refine A.guard rfl ?_ ?_ <;> intro hc)
    | refine .lb ?_ | refine .ln ?_ | refine .ls ?_ | refine .pv ?_ | refine .ix ?_ | refine .pt ?_ | refine .pf ?_ | refine .bx ?_ | refine .al ?_ | refine .st ?_ | refine .ad ?_ | refine .sb ?_ | refine .mf ?_ | refine .cl ?_ | refine .cw ?_ | refine .ck ?_ | fail
  change HCode _ _ _ _ _ _ _
  refine HCode.adopt 4 false 1 rfl rfl rfl rfl rfl rfl ?_
  refine HCode.loop (fun n σs σ => ∃ (i : Nat) (xs : List Int), n = s.length - i ∧ i ≤ s.length ∧ xs.length ≤ i ∧ good s = good (s.drop i) ∧ σ = ⟨[], [.len xs.length]⟩ ∧
    σs = [(5, .int .i64 (i : Int)), (4, .slice (xs.map (AV.int .i64)) (.own 0 1)), (0, .str s)])
    (s0 := [(5, .int .i64 ((0 : Nat) : Int)), (4, .slice (([] : List Int).map (AV.int .i64)) (.own 0 1)), (0, .str s)]) ⟨rfl, rfl, rfl, trivial⟩ ⟨0, [], rfl, Nat.zero_le _, Nat.le_refl _, rfl, rfl, rfl⟩ ?_
  rintro n σs σ ⟨i, xs, rfl, hi, hxs, hp, rfl, rfl⟩
  by_cases h1 : i < s.length
  · have d1 : decide ((i : Int) < (s.length : Int)) = true := decide_eq_true (by omega)
    have hne : s.drop i ≠ [] := by intro e; have := congrArg List.length e; rw [List.length_drop] at this; simp at this; omega
    have hc := rCode s i h1 (by omega)
    have hst := good_step hne
    have hcl := codeL_le hne
    rw [List.length_drop] at hcl
    unfold pairV at hc
    by_cases c : (codeL (s.drop i)).2 = 0
    · have e1 : (((codeL (s.drop i)).2 : Int) == 0) = true := beq_yes (by omega)
      repeat' first
        | refine .seq ?_ | refine .rg ?_ | refine .rd ?_ | refine .block ?_ | refine .scope ?_ | refine .skip ?_ | refine .label ?_ | refine .exit ?_ | refine .ret ?_
        | refine .ct ?_ | refine .cf ?_ | refine .cy ?_ | refine .cn ?_ | (refine .cond rfl ?_ ?_ <;> intro hc)
        | refine A.nil_seq ?_ | refine .nl ?_ | refine .dd ?_ | refine .ys ?_ | refine .no ?_ | (refine A.guard rfl ?_ ?_ <;> intro hc)
        | refine .lb ?_ | refine .ln ?_ | refine .ls ?_ | refine .pv ?_ | refine .ix ?_ | refine .pt ?_ | refine .pf ?_ | refine .bx ?_ | refine .al ?_ | refine .st ?_ | refine .ad ?_ | refine .sb ?_ | refine .mf ?_ | refine .cl ?_ | refine .cw ?_ | refine .ck ?_ | fail
      refine Fin.two rfl rfl (Weak.tup (WeakL.cons (Weak.undef _) (WeakL.cons (Weak.eq (congrArg AV.bool ?_)) (WeakL.refl _))))
      rw [hp, hst, if_pos c]
    · have e1 : (((codeL (s.drop i)).2 : Int) == 0) = false := beq_no (by omega)
      rw [if_neg c, List.drop_drop] at hst
      repeat' first
        | refine .seq ?_ | refine .rg ?_ | refine .rd ?_ | refine .block ?_ | refine .scope ?_ | refine .skip ?_ | refine .label ?_ | refine .exit ?_ | refine .ret ?_
        | refine .ct ?_ | refine .cf ?_ | refine .cy ?_ | refine .cn ?_ | (refine .cond rfl ?_ ?_ <;> intro hc)
        | refine A.nil_seq ?_ | refine .nl ?_ | refine .dd ?_ | refine .ys ?_ | refine .no ?_ | (refine A.guard rfl ?_ ?_ <;> intro hc)
        | refine .lb ?_ | refine .ln ?_ | refine .ls ?_ | refine .pv ?_ | refine .ix ?_ | refine .pt ?_ | refine .pf ?_ | refine .bx ?_ | refine .al ?_ | refine .st ?_ | refine .ad ?_ | refine .sb ?_ | refine .mf ?_ | refine .cl ?_ | refine .cw ?_ | refine .ck ?_
        | refine A.append (n := xs.length) rfl rfl rfl rfl rfl rfl rfl rfl (List.length_map ..) rfl (by dsimp only [List.length_cons, List.length_nil]; omega) (by dsimp only [List.length_cons, List.length_nil]; omega) rfl ?_ | fail
      refine ⟨s.length - (i + (codeL (s.drop i)).2), by omega, [(5, .int .i64 ((i + (codeL (s.drop i)).2 : Nat) : Int)), (4, .slice ((xs ++ [((codeL (s.drop i)).1 : Int)]).map (AV.int .i64)) (.own 0 1)), (0, .str s)],
        ⟨congrArg (AV.int .i64) (by omega), by rw [List.map_append]; rfl, rfl, trivial⟩, by simp [belowS, AV.low, -List.map_append], rfl, i + (codeL (s.drop i)).2, xs ++ [((codeL (s.drop i)).1 : Int)], rfl, by omega, by rw [List.length_append]; simp; omega, by rw [hp, hst], by rw [List.length_append]; rfl, rfl⟩
  · have d1 : decide ((i : Int) < (s.length : Int)) = false := decide_eq_false (by omega)
    repeat' first
      | refine .seq ?_ | refine .rg ?_ | refine .rd ?_ | refine .block ?_ | refine .scope ?_ | refine .skip ?_ | refine .label ?_ | refine .exit ?_ | refine .ret ?_
      | refine .ct ?_ | refine .cf ?_ | refine .cy ?_ | refine .cn ?_ | (refine .cond rfl ?_ ?_ <;> intro hc)
      | refine A.nil_seq ?_ | refine .nl ?_ | refine .dd ?_ | refine .ys ?_ | refine .no ?_ | (refine A.guard rfl ?_ ?_ <;> intro hc)
      | refine .lb ?_ | refine .ln ?_ | refine .ls ?_ | refine .pv ?_ | refine .ix ?_ | refine .pt ?_ | refine .pf ?_ | refine .bx ?_ | refine .al ?_ | refine .st ?_ | refine .ad ?_ | refine .sb ?_ | refine .mf ?_ | refine .cl ?_ | refine .cw ?_ | refine .ck ?_ | fail
    refine Fin.two rfl rfl (Weak.tup (WeakL.cons (Weak.undef _) (WeakL.cons (Weak.eq (congrArg AV.bool ?_)) (WeakL.refl _))))
    rw [hp, List.drop_eq_nil_of_le (by omega)]; rfl
theorem rGood (s : Str) (hs : s.length ≤ 1048576) : PFn Tryz.prog 97 [.str s] (.bool (good s)) := by
  have h := rCodes s hs
  refine AFn.plain rfl rfl (AFn.enter [2] Tryz.func97 rfl rfl rfl rfl rfl (by decide) ?_)
  repeat' first
    | refine .seq ?_ | refine .rg ?_ | refine .rd ?_ | refine .block ?_ | refine .scope ?_ | refine .skip ?_ | refine .label ?_ | refine .exit ?_ | refine .ret ?_
    | refine .ct ?_ | refine .cf ?_ | refine .cy ?_ | refine .cn ?_ | (refine .cond rfl ?_ ?_ <;> intro hc)
    | refine A.nil_seq ?_ | refine .nl ?_ | refine .dd ?_ | refine .ys ?_ | refine .no ?_ | (refine A.guard rfl ?_ ?_ <;> intro hc)
    | refine .lb ?_ | refine .ln ?_ | refine .ls ?_ | refine .pv ?_ | refine .ix ?_ | refine .pt ?_ | refine .pf ?_ | refine .bx ?_ | refine .al ?_ | refine .st ?_ | refine .ad ?_ | refine .sb ?_ | refine .mf ?_ | refine .cl ?_ | refine .cw ?_ | refine .ck ?_ | fail
  exact Fin.ret1 rfl (Weak.refl _)
end Go.Proofs.YtpidjkihngiaoaaGreatDoor
namespace Go.Av
open Go
set_option linter.unusedVariables false
set_option linter.unusedSectionVars false
section
variable [Globals]
variable {P : Program} [Lay P] {all : Array Oper} {draw : Bool} {K : AX → Slots → St → Prop} {rest : List Oper} {acc : List Tag} {s : Slots} {σ : St}
variable {d : Tmp} {ty : TypeId} {pos : String} {af : Array Edge}
theorem foldl_push : ∀ (ns : List Int) (b : ByteArray), ns.foldl (fun r n => r.push (UInt8.ofNat n.toNat)) b = ⟨(b.data.toList ++ ns.map fun n => UInt8.ofNat n.toNat).toArray⟩
  | [], b => by cases b; simp
  | n :: ns, b => by
    rw [List.foldl_cons, foldl_push ns]
    simp [ByteArray.push]
theorem A.add' {x y : Operand} {T U : TypeId} {k : IntKind} {m n r : Int} (hx : ev? s x = some (.int k m)) (hy : ev? s y = some (.int k n)) (hr : k.wrap (m + n) = r) (k' : AOps P all draw K rest (.pure :: acc) ((d, .int k r) :: s) σ) :
    AOps P all draw K (⟨some d, .binOp .add T x y U, ty, pos, af, none⟩ :: rest) acc s σ := A.add hx hy (by rw [hr]; exact k')
theorem A.convS {x : Operand} {T U : TypeId} {ns : List Int} {tk : Tk} {ys : List UInt8} {tT tE tU : TI} (hT : ty? P T = some tT) (hk : tT.kind = .slice) (hE : ty? P tT.elem = some tE) (hek : tE.kind = .int .u8) (hU : ty? P U = some tU) (huk : tU.kind = .string)
    (hx : ev? s x = some (.slice (ns.map (AV.int .u8)) tk)) (hy : ns.map (fun n => UInt8.ofNat n.toNat) = ys)
    (k : AOps P all draw K rest (.pure :: acc) ((d, .str ys) :: s) σ) : AOps P all draw K (⟨some d, .convert T U x, ty, pos, af, none⟩ :: rest) acc s σ :=
  A.step rfl (tpure fun g w a ho => by
    obtain ⟨p, cap, sz, Vs, e, c1, c2, c3, hlr, c5, c6⟩ := op1 hx (by simp [Op.operands]) ho
    obtain ⟨_, dd, _, t1, t2, t3, t4, _⟩ := (ty_ok hT).ex
    have hd : ∃ e, dd = .slice e := by rw [hk] at t3; cases dd <;> first | exact ⟨_, rfl⟩ | cases t3
    obtain ⟨elm, rfl⟩ := hd
    have hel : elm = tT.elem := t4
    subst hel
    obtain ⟨_, d2, _, _, e2, e3, _⟩ := (ty_ok hE).ex
    have hd2 := kind_int (e3.trans hek)
    subst hd2
    obtain ⟨_, d3, _, _, u2, u3, _⟩ := (ty_ok hU).ex
    have hd3 := kind_string (u3.trans huk)
    subst hd3
    have hVs : Vs = ns.map (Value.int .u8) := by
      have aux : ∀ (ms : List Int) (Us : List Value), RepL g w (ms.map (AV.int .u8)) Us → Us = ms.map (Value.int .u8) := by
        intro ms
        induction ms with
        | nil => intro Us h; exact h
        | cons m ms ih =>
          rintro Us ⟨v, r, rfl, h1, h2⟩
          rw [ih r h2, show v = .int .u8 m from h1]; rfl
      exact aux ns Vs hlr
    subst hVs
    refine ⟨.string ⟨ys.toArray⟩, ?_, rfl⟩
    have hrun : (Go.Conv.bytesToString (.slice p (ns.map (Value.int .u8)).length cap)).run P w = .ok (.string ⟨ys.toArray⟩) w := by
      cases p with
      | none =>
        have := (c5 rfl).1
        have hn : ns = [] := by simpa using this
        subst hn
        subst hy
        simp [Go.Conv.bytesToString]; rfl
      | some q =>
        obtain ⟨hs, hm⟩ := c6 q rfl
        have hl : (loadCells q (ns.map (Value.int .u8)).length).run P w = .ok (ns.map (Value.int .u8)).toArray w := by
          refine run_loadCells_list w q (ns.map (Value.int .u8)) (fun j v hj => ?_)
          obtain ⟨h1, h2⟩ := hm j v hj
          rw [List.getElem?_map] at hj
          obtain ⟨n, hn, rfl⟩ := Option.map_eq_some_iff.1 hj
          have hz : sz = 1 := by rw [← h1]; rfl
          obtain ⟨_, h3, _⟩ := h2 0 (.int .u8 n) rfl
          have hq : q.spot = none := hs.resolve_right (by intro e0; rw [List.map_eq_nil_iff] at e0; subst e0; simp at hn)
          rw [hz] at h3
          obtain ⟨qb, qo, qs⟩ := q
          simp only at hq h3
          subst hq
          rw [show (⟨qb, qo, none⟩ : Addr).add j = ⟨qb, qo + j * 1 + 0, none⟩ by unfold Addr.add; split <;> simp_all]
          exact h3
        rw [run_bytesToString w q _ cap ns hl, foldl_push, hy]
        rfl
    have hc := run_convert_bytes_string (P := P) w T U tT.elem p (ns.map (Value.int .u8)).length cap t2 e2 u2
    rw [hrun, List.length_map] at hc
    rw [List.length_map] at e
    simp [execOp, e, hc, Result.andThen]) k
end
end Go.Av
namespace Go.Proofs.YtpidjkihngiaoaaGreatDoor
open Go Go.Av
set_option maxRecDepth 100000
set_option maxHeartbeats 16000000
set_option linter.unusedVariables false
set_option linter.unusedSimpArgs false
attribute [local irreducible] HCode AOps PFn AFn Av.Step TStep

def digU (a : Nat) : UInt8 := UInt8.ofNat (48 + a % 10)
/-- Digits of what is left, ahead of those that are there. -/
def decJ (n m : Int) (out : Str) : Prop := (if m = 0 then [] else Lib.decDigits m.natAbs) ++ out = Lib.decDigits n.natAbs
theorem decJ_next {n m : Int} {out : Str} (hm : m ≠ 0) (h : decJ n m out) : decJ n (m.tdiv 10) (digU m.natAbs :: out) := by
  unfold decJ at h ⊢
  rw [if_neg hm] at h
  rw [← h]
  have ht : (m.tdiv 10).natAbs = m.natAbs / 10 := by rw [Int.natAbs_tdiv]; rfl
  by_cases c : m.natAbs < 10
  · have h0 : m.tdiv 10 = 0 := by have : (m.tdiv 10).natAbs = 0 := by rw [ht]; omega
                                  omega
    rw [if_pos h0, Lib.decDigits_one c]
    unfold digU
    rw [Nat.mod_eq_of_lt c]; rfl
  · have h0 : m.tdiv 10 ≠ 0 := by have : (m.tdiv 10).natAbs ≠ 0 := by rw [ht]; omega
                                  omega
    rw [if_neg h0, ht]
    conv => rhs; rw [Lib.decDigits, dif_neg c]
    rw [List.append_assoc]; rfl
theorem tmod_abs (m : Int) : (if m.tmod 10 < 0 then 0 - m.tmod 10 else m.tmod 10) = (m.natAbs % 10 : Nat) := by
  have h1 := Int.natAbs_tmod m 10
  have h2 : (m.tmod 10).natAbs = m.natAbs % 10 := h1
  split <;> omega
theorem rDecimal (n : Int) (h0 : -9223372036854775808 ≤ n) (h1 : n ≤ 9223372036854775807) : PFn Tryz.prog 153 [.int .i64 n] (.str (Lib.itoa n)) := by
  refine AFn.plain rfl rfl (AFn.enter [2] Tryz.func153 rfl rfl rfl rfl rfl (by decide) ?_)
  by_cases c0 : n = 0
  · subst c0
    repeat' first
      | refine .seq ?_ | refine .rg ?_ | refine .rd ?_ | refine .block ?_ | refine .scope ?_ | refine .skip ?_ | refine .label ?_ | refine .exit ?_ | refine .ret ?_
      | refine .ct ?_ | refine .cf ?_ | refine .cy ?_ | refine .cn ?_ | (refine .cond rfl ?_ ?_ <;> intro hc)
      | refine A.nil_seq ?_ | refine .nl ?_ | refine .dd ?_ | refine .ys ?_ | refine .no ?_ | (refine A.guard rfl ?_ ?_ <;> intro hc)
      | refine .lb ?_ | refine .ln ?_ | refine .ls ?_ | refine .pv ?_ | refine .ix ?_ | refine .pt ?_ | refine .pf ?_ | refine .bx ?_ | refine .al ?_ | refine .st ?_ | refine .ad ?_ | refine .sb ?_ | refine .mf ?_ | refine .cl ?_ | refine .cw ?_ | refine .ck ?_ | fail
    refine Fin.ret1 rfl (Weak.eq (congrArg AV.str ?_))
    show _ = Lib.itoa ((0 : Nat) : Int)
    rw [Lib.itoa_nonneg, Lib.decDigits_one (by decide)]; rfl
  · have q0 : (n == 0) = false := by simp [c0]
    repeat' first
      | refine .seq ?_ | refine .rg ?_ | refine .rd ?_ | refine .block ?_ | refine .scope ?_ | refine .skip ?_ | refine .label ?_ | refine .exit ?_ | refine .ret ?_
      | refine .ct ?_ | refine .cf ?_ | refine .cy ?_ | refine .cn ?_ | (refine .cond rfl ?_ ?_ <;> intro hc)
      | refine A.nil_seq ?_ | refine .nl ?_ | refine .dd ?_ | refine .ys ?_ | refine .no ?_ | (refine A.guard rfl ?_ ?_ <;> intro hc)
      | refine .lb ?_ | refine .ln ?_ | refine .ls ?_ | refine .pv ?_ | refine .ix ?_ | refine .pt ?_ | refine .pf ?_ | refine .bx ?_ | refine .al ?_ | refine .st ?_ | refine .ad ?_ | refine .sb ?_ | refine .mf ?_ | refine .cl ?_ | refine .cw ?_ | refine .ck ?_ | fail
    refine HCode.loop (fun z s σ => ∃ (m : Int) (out : Str), z = m.natAbs ∧ m.natAbs ≤ n.natAbs ∧ decJ n m out ∧ σ = ⟨[], []⟩ ∧ s = [(0, .int .i64 n), (3, .str out), (4, .int .i64 m)])
      (s0 := [(0, .int .i64 n), (3, .str []), (4, .int .i64 n)]) ⟨rfl, rfl, rfl, trivial⟩ ⟨n, [], rfl, Nat.le_refl _, by unfold decJ; rw [if_neg c0, List.append_nil], rfl, rfl⟩ ?_
    rintro z s σ ⟨m, out, rfl, hm, hj, rfl, rfl⟩
    have ht : (m.tdiv 10).natAbs = m.natAbs / 10 := by rw [Int.natAbs_tdiv]; rfl
    have hmod := tmod_abs m
    have hol : out.length ≤ 20 := by
      have h3 : out.length ≤ (Lib.decDigits n.natAbs).length := by rw [← hj, List.length_append]; omega
      rw [Lib.decDigits_length] at h3
      exact Nat.le_trans h3 (Lib.nDigits_le20 _ (by omega))
    by_cases cm : m = 0
    · subst cm
      have hd : out = Lib.decDigits n.natAbs := by unfold decJ at hj; rwa [if_pos rfl, List.nil_append] at hj
      by_cases cn : n < 0
      · have qn : decide (n < 0) = true := decide_eq_true cn
        repeat' first
          | refine .seq ?_ | refine .rg ?_ | refine .rd ?_ | refine .block ?_ | refine .scope ?_ | refine .skip ?_ | refine .label ?_ | refine .exit ?_ | refine .ret ?_
          | refine .ct ?_ | refine .cf ?_ | refine .cy ?_ | refine .cn ?_ | (refine .cond rfl ?_ ?_ <;> intro hc)
          | refine A.nil_seq ?_ | refine .nl ?_ | refine .dd ?_ | refine .ys ?_ | refine .no ?_ | (refine A.guard rfl ?_ ?_ <;> intro hc)
          | refine .lb ?_ | refine .ln ?_ | refine .ls ?_ | refine .pv ?_ | refine .ix ?_ | refine .pt ?_ | refine .pf ?_ | refine .bx ?_ | refine .al ?_ | refine .st ?_ | refine .ad ?_ | refine .sb ?_ | refine .mf ?_ | refine .cl ?_ | refine .cw ?_ | refine .ck ?_
          | refine A.cat rfl rfl (by simp only [List.length_cons, List.length_nil]; omega) ?_ | fail
        refine Fin.ret1 rfl (Weak.eq (congrArg AV.str ?_))
        unfold Lib.itoa
        rw [if_pos cn, hd]; rfl
      · have qn : decide (n < 0) = false := decide_eq_false cn
        repeat' first
          | refine .seq ?_ | refine .rg ?_ | refine .rd ?_ | refine .block ?_ | refine .scope ?_ | refine .skip ?_ | refine .label ?_ | refine .exit ?_ | refine .ret ?_
          | refine .ct ?_ | refine .cf ?_ | refine .cy ?_ | refine .cn ?_ | (refine .cond rfl ?_ ?_ <;> intro hc)
          | refine A.nil_seq ?_ | refine .nl ?_ | refine .dd ?_ | refine .ys ?_ | refine .no ?_ | (refine A.guard rfl ?_ ?_ <;> intro hc)
          | refine .lb ?_ | refine .ln ?_ | refine .ls ?_ | refine .pv ?_ | refine .ix ?_ | refine .pt ?_ | refine .pf ?_ | refine .bx ?_ | refine .al ?_ | refine .st ?_ | refine .ad ?_ | refine .sb ?_ | refine .mf ?_ | refine .cl ?_ | refine .cw ?_ | refine .ck ?_ | fail
        refine Fin.ret1 rfl (Weak.eq (congrArg AV.str ?_))
        unfold Lib.itoa
        rw [if_neg cn, hd, show n.natAbs = n.toNat by omega]
    · have qm : (m != 0) = true := by simp [cm]
      have jn := decJ_next cm hj
      have wq : IntKind.i64.wrap (m.tdiv 10) = m.tdiv 10 := IntWalk.i64_in _ (by omega)
      have wa : IntKind.i64.wrap (48 + ((m.natAbs % 10 : Nat) : Int)) = ((48 + m.natAbs % 10 : Nat) : Int) := by rw [IntWalk.i64_in _ (by omega)]; omega
      have wc : IntKind.u8.wrap ((48 + m.natAbs % 10 : Nat) : Int) = ((48 + m.natAbs % 10 : Nat) : Int) := by
        show ((48 + m.natAbs % 10 : Nat) : Int) % 256 = _
        omega
      by_cases cd : m.tmod 10 < 0
      · have qd : decide (m.tmod 10 < 0) = true := decide_eq_true cd
        rw [if_pos cd] at hmod
        have wn : IntKind.i64.wrap (0 - m.tmod 10) = ((m.natAbs % 10 : Nat) : Int) := by rw [hmod]; exact IntWalk.i64_in _ (by omega)
        repeat' first
          | refine A.add' rfl rfl wa ?_
          | refine .seq ?_ | refine .rg ?_ | refine .rd ?_ | refine .block ?_ | refine .scope ?_ | refine .skip ?_ | refine .label ?_ | refine .exit ?_ | refine .ret ?_
          | refine .ct ?_ | refine .cf ?_ | refine .cy ?_ | refine .cn ?_ | (refine .cond rfl ?_ ?_ <;> intro hc)
          | refine A.nil_seq ?_ | refine .nl ?_ | refine .dd ?_ | refine .ys ?_ | refine .no ?_ | (refine A.guard rfl ?_ ?_ <;> intro hc)
          | refine .lb ?_ | refine .ln ?_ | refine .ls ?_ | refine .pv ?_ | refine .ix ?_ | refine .pt ?_ | refine .pf ?_ | refine .bx ?_ | refine .al ?_ | refine .st ?_ | refine .ad ?_ | refine .sb ?_ | refine .mf ?_ | refine .cl ?_ | refine .cw ?_ | refine .ck ?_
          | refine A.rem rfl rfl (by decide) rfl ?_ | refine A.neg rfl wn ?_ | refine A.add' rfl rfl wa ?_ | refine A.conv rfl rfl rfl rfl wc ?_ | refine A.convS (ns := [((48 + m.natAbs % 10 : Nat) : Int)]) rfl rfl rfl rfl rfl rfl rfl (show _ = [digU m.natAbs] from rfl) ?_ | refine A.cat rfl rfl (by simp only [List.length_cons, List.length_nil]; omega) ?_ | refine A.quo rfl rfl (by decide) wq ?_ | fail
        exact ⟨(m.tdiv 10).natAbs, by omega, [(0, .int .i64 n), (3, .str (digU m.natAbs :: out)), (4, .int .i64 (m.tdiv 10))], ⟨rfl, rfl, rfl, trivial⟩, rfl, rfl, m.tdiv 10, digU m.natAbs :: out, rfl, by omega, jn, rfl, rfl⟩
      · have qd : decide (m.tmod 10 < 0) = false := decide_eq_false cd
        rw [if_neg cd] at hmod
        rw [hmod] at qd
        repeat' first
          | refine A.add' rfl rfl wa ?_
          | refine .seq ?_ | refine .rg ?_ | refine .rd ?_ | refine .block ?_ | refine .scope ?_ | refine .skip ?_ | refine .label ?_ | refine .exit ?_ | refine .ret ?_
          | refine .ct ?_ | refine .cf ?_ | refine .cy ?_ | refine .cn ?_ | (refine .cond rfl ?_ ?_ <;> intro hc)
          | refine A.nil_seq ?_ | refine .nl ?_ | refine .dd ?_ | refine .ys ?_ | refine .no ?_ | (refine A.guard rfl ?_ ?_ <;> intro hc)
          | refine .lb ?_ | refine .ln ?_ | refine .ls ?_ | refine .pv ?_ | refine .ix ?_ | refine .pt ?_ | refine .pf ?_ | refine .bx ?_ | refine .al ?_ | refine .st ?_ | refine .ad ?_ | refine .sb ?_ | refine .mf ?_ | refine .cl ?_ | refine .cw ?_ | refine .ck ?_
          | refine A.rem rfl rfl (by decide) hmod ?_ | refine A.add' rfl rfl wa ?_ | refine A.conv rfl rfl rfl rfl wc ?_ | refine A.convS (ns := [((48 + m.natAbs % 10 : Nat) : Int)]) rfl rfl rfl rfl rfl rfl rfl (show _ = [digU m.natAbs] from rfl) ?_ | refine A.cat rfl rfl (by simp only [List.length_cons, List.length_nil]; omega) ?_ | refine A.quo rfl rfl (by decide) wq ?_ | fail
        exact ⟨(m.tdiv 10).natAbs, by omega, [(0, .int .i64 n), (3, .str (digU m.natAbs :: out)), (4, .int .i64 (m.tdiv 10))], ⟨rfl, rfl, rfl, trivial⟩, rfl, rfl, m.tdiv 10, digU m.natAbs :: out, rfl, by omega, jn, rfl, rfl⟩
end Go.Proofs.YtpidjkihngiaoaaGreatDoor
