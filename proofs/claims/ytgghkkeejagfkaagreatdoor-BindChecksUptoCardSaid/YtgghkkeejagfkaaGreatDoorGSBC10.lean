/-
  Contracts and plain facts for a law, joined.
-/
import Derived.Test.YtgghkkeejagfkaaGreatDoorGSBC1
import Derived.Test.YtgghkkeejagfkaaGreatDoorGSBC9
import Derived.Test.YtgghkkeejagfkaaGreatDoorGSBC2
import Derived.Lib.ValidLaws
import Derived.Lib.ParseIntB
import Derived.Lib.ParseIntBCases
set_option maxRecDepth 100000
set_option maxHeartbeats 16000000
set_option linter.unusedVariables false
set_option linter.unusedSimpArgs false
set_option linter.unusedSectionVars false
namespace Go.Proofs.YtgghkkeejagfkaaGreatDoor
open Go Go.Av
attribute [local irreducible] HCode AOps PFn AFn Av.Step TStep
theorem code_is {s : Str} {i : Nat} (hi : i < s.length) : codeL (s.drop i) = codeP (s.length - i) s[i].toNat (byteAt s i 1) (byteAt s i 2) (byteAt s i 3) := by
  have g0 : byteAt s i 0 = s[i].toNat := byteAt_of (k := 0) hi
  rw [codeL_eq, ← g0]; rfl
theorem code_2 {s : Str} {i : Nat} (hi : i < s.length) (h : 194 ≤ s[i].toNat ∧ s[i].toNat < 224) : codeL (s.drop i) = restC s i 2 128 (s[i].toNat % 32) := by
  rw [code_is hi, codeP, if_neg (by omega), if_pos h]
  unfold restC
  simp only [contAll, contB, cAcc, Nat.reduceSub, Bool.and_true, Bool.and_eq_true, decide_eq_true_eq]
  by_cases a : 2 ≤ s.length - i
  · rw [if_pos a]
    by_cases b : 128 ≤ byteAt s i 1 ∧ byteAt s i 1 ≤ 191
    · rw [if_pos ⟨a, b⟩, if_pos b]
    · rw [if_neg (fun h => b h.2), if_neg b]
  · rw [if_neg (fun h => a h.1), if_neg a]
theorem code_3 {s : Str} {i : Nat} (hi : i < s.length) (h : 224 ≤ s[i].toNat ∧ s[i].toNat < 240) : codeL (s.drop i) = restC s i 3 2048 (s[i].toNat % 16) := by
  rw [code_is hi, codeP, if_neg (by omega), if_neg (by omega), if_pos h]
  unfold restC
  simp only [contAll, contB, cAcc, Nat.reduceSub, Bool.and_true, Bool.and_eq_true, decide_eq_true_eq]
  by_cases a : 3 ≤ s.length - i
  · rw [if_pos a]
    by_cases b : (128 ≤ byteAt s i 1 ∧ byteAt s i 1 ≤ 191) ∧ (128 ≤ byteAt s i 2 ∧ byteAt s i 2 ≤ 191)
    · rw [if_pos ⟨a, b⟩, if_pos b]
    · rw [if_neg (fun h => b h.2), if_neg b]
  · rw [if_neg (fun h => a h.1), if_neg a]
theorem code_4 {s : Str} {i : Nat} (hi : i < s.length) (h : 240 ≤ s[i].toNat ∧ s[i].toNat < 245) : codeL (s.drop i) = restC s i 4 65536 (s[i].toNat % 8) := by
  rw [code_is hi, codeP, if_neg (by omega), if_neg (by omega), if_neg (by omega), if_pos h]
  unfold restC
  simp only [contAll, contB, cAcc, Nat.reduceSub, Bool.and_true, Bool.and_eq_true, decide_eq_true_eq]
  by_cases a : 4 ≤ s.length - i
  · rw [if_pos a]
    by_cases b : (128 ≤ byteAt s i 1 ∧ byteAt s i 1 ≤ 191) ∧ (128 ≤ byteAt s i 2 ∧ byteAt s i 2 ≤ 191) ∧ (128 ≤ byteAt s i 3 ∧ byteAt s i 3 ≤ 191)
    · rw [if_pos ⟨a, b⟩, if_pos b]
    · rw [if_neg (fun h => b h.2), if_neg b]
  · rw [if_neg (fun h => a h.1), if_neg a]
theorem code_1 {s : Str} {i : Nat} (hi : i < s.length) (h : s[i].toNat < 128) : codeL (s.drop i) = (s[i].toNat, 1) := by
  rw [code_is hi, codeP, if_pos h]
theorem code_0 {s : Str} {i : Nat} (hi : i < s.length) (h0 : ¬ s[i].toNat < 128) (h2 : ¬ (194 ≤ s[i].toNat ∧ s[i].toNat < 224)) (h3 : ¬ (224 ≤ s[i].toNat ∧ s[i].toNat < 240)) (h4 : ¬ (240 ≤ s[i].toNat ∧ s[i].toNat < 245)) : codeL (s.drop i) = (0, 0) := by
  rw [code_is hi, codeP, if_neg h0, if_neg h2, if_neg h3, if_neg h4]
attribute [local irreducible] Int.decLt Int.decLe Int.le Int.lt in
theorem rCode (s : Str) (i : Nat) (hi : i < s.length) (hs : s.length ≤ 4611686018427387904) :
    PFn Tryz.prog 323 [.str s, .int .i64 (i : Int)] (pairV (codeL (s.drop i))) := by
  have x0 := get_str hi
  have hb0 := UInt8.toNat_lt s[i]
  have hbN : s[i].toNat < 9223372036854775808 := by omega
  have e1 : decide ((i : Int) < 0) = false := decide_eq_false (by omega)
  have e2 : decide ((i : Int) ≥ (s.length : Int)) = false := decide_eq_false (by omega)
  by_cases c1 : s[i].toNat < 128
  · have d1 : decide ((s[i].toNat : Int) < 128) = true := decide_eq_true (by omega)
    rw [code_1 hi c1]
    refine AFn.plain rfl rfl (AFn.enter [4, 5] Tryz.func323 rfl rfl rfl rfl rfl (by decide) ?_)
    repeat' first | refine .s1 ?_ | (refine .cond rfl ?_ ?_ <;> intro hc) | (refine A.guard rfl ?_ ?_ <;> intro hc) | refine A.index_s rfl rfl rfl rfl rfl (by assumption) ?_ | refine A.conv rfl rfl rfl rfl (conv_u8 _) ?_ | fail
    exact Fin.two rfl rfl (Weak.refl _)
  · have d1 : decide ((s[i].toNat : Int) < 128) = false := decide_eq_false (by omega)
    by_cases c2 : 194 ≤ s[i].toNat ∧ s[i].toNat < 224
    · have f1 : decide ((s[i].toNat : Int) ≥ 194) = true := decide_eq_true (by omega)
      have f2 : decide ((s[i].toNat : Int) < 224) = true := decide_eq_true (by omega)
      have hrest := codeRest s i 2 128 (s[i].toNat % 32) hi hs ⟨by decide, by decide⟩ (by omega)
      rw [code_2 hi c2]
      refine AFn.plain rfl rfl (AFn.enter [4, 5] Tryz.func323 rfl rfl rfl rfl rfl (by decide) ?_)
      repeat' first | (refine HCode.weaken hrest ?_; exact ⟨rfl, rfl, rfl, rfl, rfl, trivial⟩) | refine .s1 ?_ | (refine .cond rfl ?_ ?_ <;> intro hc) | (refine A.guard rfl ?_ ?_ <;> intro hc) | refine A.index_s rfl rfl rfl rfl rfl (by assumption) ?_ | refine A.conv rfl rfl rfl rfl (conv_u8 _) ?_ | refine A.band (n := 31) rfl rfl rfl rfl hbN (by decide) (and31 _) ?_ | fail
    · by_cases c3 : 224 ≤ s[i].toNat ∧ s[i].toNat < 240
      · have f1 : decide ((s[i].toNat : Int) ≥ 194) = true := decide_eq_true (by omega)
        have f2 : decide ((s[i].toNat : Int) < 224) = false := decide_eq_false (by omega)
        have f3 : decide ((s[i].toNat : Int) ≥ 224) = true := decide_eq_true (by omega)
        have f4 : decide ((s[i].toNat : Int) < 240) = true := decide_eq_true (by omega)
        have hrest := codeRest s i 3 2048 (s[i].toNat % 16) hi hs ⟨by decide, by decide⟩ (by omega)
        rw [code_3 hi c3]
        refine AFn.plain rfl rfl (AFn.enter [4, 5] Tryz.func323 rfl rfl rfl rfl rfl (by decide) ?_)
        repeat' first | (refine HCode.weaken hrest ?_; exact ⟨rfl, rfl, rfl, rfl, rfl, trivial⟩) | refine .s1 ?_ | (refine .cond rfl ?_ ?_ <;> intro hc) | (refine A.guard rfl ?_ ?_ <;> intro hc) | refine A.index_s rfl rfl rfl rfl rfl (by assumption) ?_ | refine A.conv rfl rfl rfl rfl (conv_u8 _) ?_ | refine A.band (n := 15) rfl rfl rfl rfl hbN (by decide) (and15 _) ?_ | fail
      · by_cases c4 : 240 ≤ s[i].toNat ∧ s[i].toNat < 245
        · have f1 : decide ((s[i].toNat : Int) ≥ 194) = true := decide_eq_true (by omega)
          have f2 : decide ((s[i].toNat : Int) < 224) = false := decide_eq_false (by omega)
          have f3 : decide ((s[i].toNat : Int) ≥ 224) = true := decide_eq_true (by omega)
          have f4 : decide ((s[i].toNat : Int) < 240) = false := decide_eq_false (by omega)
          have f5 : decide ((s[i].toNat : Int) ≥ 240) = true := decide_eq_true (by omega)
          have f6 : decide ((s[i].toNat : Int) < 245) = true := decide_eq_true (by omega)
          have hrest := codeRest s i 4 65536 (s[i].toNat % 8) hi hs ⟨by decide, by decide⟩ (by omega)
          rw [code_4 hi c4]
          refine AFn.plain rfl rfl (AFn.enter [4, 5] Tryz.func323 rfl rfl rfl rfl rfl (by decide) ?_)
          repeat' first | (refine HCode.weaken hrest ?_; exact ⟨rfl, rfl, rfl, rfl, rfl, trivial⟩) | refine .s1 ?_ | (refine .cond rfl ?_ ?_ <;> intro hc) | (refine A.guard rfl ?_ ?_ <;> intro hc) | refine A.index_s rfl rfl rfl rfl rfl (by assumption) ?_ | refine A.conv rfl rfl rfl rfl (conv_u8 _) ?_ | refine A.band (n := 7) rfl rfl rfl rfl hbN (by decide) (Go.Av.and7 _) ?_ | fail
        · rw [code_0 hi c1 c2 c3 c4]
          refine AFn.plain rfl rfl (AFn.enter [4, 5] Tryz.func323 rfl rfl rfl rfl rfl (by decide) ?_)
          by_cases c5 : s[i].toNat < 194
          · have f1 : decide ((s[i].toNat : Int) ≥ 194) = false := decide_eq_false (by omega)
            have f3 : decide ((s[i].toNat : Int) ≥ 224) = false := decide_eq_false (by omega)
            have f5 : decide ((s[i].toNat : Int) ≥ 240) = false := decide_eq_false (by omega)
            repeat' first | refine .s1 ?_ | (refine .cond rfl ?_ ?_ <;> intro hc) | (refine A.guard rfl ?_ ?_ <;> intro hc) | refine A.index_s rfl rfl rfl rfl rfl (by assumption) ?_ | refine A.conv rfl rfl rfl rfl (conv_u8 _) ?_ | fail
            exact Fin.two rfl rfl (Weak.refl _)
          · have f1 : decide ((s[i].toNat : Int) ≥ 194) = true := decide_eq_true (by omega)
            have f2 : decide ((s[i].toNat : Int) < 224) = false := decide_eq_false (by omega)
            have f3 : decide ((s[i].toNat : Int) ≥ 224) = true := decide_eq_true (by omega)
            have f4 : decide ((s[i].toNat : Int) < 240) = false := decide_eq_false (by omega)
            have f5 : decide ((s[i].toNat : Int) ≥ 240) = true := decide_eq_true (by omega)
            have f6 : decide ((s[i].toNat : Int) < 245) = false := decide_eq_false (by omega)
            repeat' first | refine .s1 ?_ | (refine .cond rfl ?_ ?_ <;> intro hc) | (refine A.guard rfl ?_ ?_ <;> intro hc) | refine A.index_s rfl rfl rfl rfl rfl (by assumption) ?_ | refine A.conv rfl rfl rfl rfl (conv_u8 _) ?_ | fail
            exact Fin.two rfl rfl (Weak.refl _)
end Go.Proofs.YtgghkkeejagfkaaGreatDoor
namespace Go.Proofs.YtgghkkeejagfkaaGreatDoor
open Go Go.Av
attribute [local irreducible] HCode AOps PFn AFn Av.Step TStep
theorem rRun (s : Str) (i : Nat) (hs : s.length ≤ 4611686018427387904) (hi : i ≤ 4611686018427387904) : PFn Tryz.prog 322 [.str s, .int .i64 (i : Int)] (.int .i64 (digs (s.drop i))) := by
  refine AFn.plain rfl rfl (AFn.enter [4] Tryz.func322 rfl rfl rfl rfl rfl (by decide) ?_)
  have hle := digs_le (s.drop i)
  rw [List.length_drop] at hle
  refine .go ?_
  refine HCode.forK (s.length - i) (fun k => [(5, .int .i64 k), (0, .str s), (1, .int .i64 (i : Int))]) (fun _ => ⟨[], []⟩) (fun k => digs (s.drop i) = k + digs (s.drop (i + k))) ⟨rfl, rfl, rfl, trivial⟩ rfl (by simp) fun k hk hp => ?_
  by_cases h1 : i + k < s.length
  · have d1 : decide ((i : Int) + (k : Int) < (s.length : Int)) = true := decide_eq_true (by omega)
    have x1 := get_str h1
    have hd := rDigit s[i + k]
    have he := digs_drop h1
    repeat' first | refine .s1 ?_ | (refine .cond rfl ?_ ?_ <;> intro hc) | (refine A.guard rfl ?_ ?_ <;> intro hc) | refine A.index_s (j := i + k) rfl rfl rfl rfl rfl (by assumption) ?_ | fail
    · exact ⟨by omega, ⟨rfl, rfl, rfl, trivial⟩, by simp [belowS, AV.low], rfl, rfl, by rw [hp, he, if_pos hc]; simp only [Nat.add_assoc]; omega⟩
    · refine Fin.ret1 rfl (Weak.eq (congrArg (AV.int .i64) ?_))
      rw [hp, he, if_neg (by simp [hc])]; simp
  · have d1 : decide ((i : Int) + (k : Int) < (s.length : Int)) = false := decide_eq_false (by omega)
    refine .go ?_
    refine Fin.ret1 rfl (Weak.eq (congrArg (AV.int .i64) ?_))
    rw [hp, List.drop_eq_nil_of_le (by omega), digs]; simp
def expN (s : Str) (i : Nat) (kd : Int) : Nat × Int := if powN (s.drop i) = 0 then (i, kd) else (i + powN (s.drop i), 4)
theorem powN_at {s : Str} {i : Nat} (h : i < s.length) : powN (s.drop i) = if s[i].toNat = 101 ∨ s[i].toNat = 69 then
    (if i + 1 < s.length ∧ ((s.getD (i + 1) 0).toNat = 43 ∨ (s.getD (i + 1) 0).toNat = 45) then (if digs (s.drop (i + 2)) = 0 then 0 else 2 + digs (s.drop (i + 2))) else (if digs (s.drop (i + 1)) = 0 then 0 else 1 + digs (s.drop (i + 1)))) else 0 := by
  unfold powN expAt
  have e0 : (s.drop i).getD 0 0 = s[i] := by rw [List.drop_eq_getElem_cons h]; rfl
  have e1 : (s.drop i).getD 1 0 = s.getD (i + 1) 0 := by simp [List.getD]
  rw [e0, e1]
  simp only [List.drop_drop, List.length_drop]
  have e2 : (1 < s.length - i) ↔ (i + 1 < s.length) := by omega
  simp only [e2]
theorem powN_end {s : Str} {i : Nat} (h : s.length ≤ i) : powN (s.drop i) = 0 := by
  rw [List.drop_eq_nil_of_le h]; rfl
theorem beq_no {a b : Int} (h : a ≠ b) : (a == b) = false := by simpa using h
theorem beq_yes {a b : Int} (h : a = b) : (a == b) = true := by simpa using h
theorem num3 (s : Str) (i : Nat) (kd : Int) (hs : s.length ≤ 4611686018427387000) (hi : i ≤ s.length) :
    HCode Tryz.prog Tryz.f297.ntmps [] (tailOf 8 (bodyOf Tryz.f297)) (fin [2, 3] (fun e _ => ∃ v, e = .ret v ∧ Weak v (.tup [.int .i64 (expN s i kd).1, .int .i64 (expN s i kd).2])))
      [(0, .str s), (4, .int .i64 (i : Int)), (6, .int .i64 kd)] ⟨[], []⟩ := by
  unfold expN
  by_cases h1 : i < s.length
  · have d1 : decide ((i : Int) < (s.length : Int)) = true := decide_eq_true (by omega)
    have x1 := get_str h1
    have hr1 := rRun s (i + 1) (by omega) (by omega)
    have hr2 := rRun s (i + 2) (by omega) (by omega)
    have hle1 := digs_le (s.drop (i + 1))
    have hle2 := digs_le (s.drop (i + 2))
    rw [List.length_drop] at hle1 hle2
    have hpw := powN_at h1
    by_cases q : s[i].toNat = 101 ∨ s[i].toNat = 69
    · rw [if_pos q] at hpw
      have e1 : ((s[i].toNat : Int) == 101) = decide (s[i].toNat = 101) := by rw [Bool.eq_iff_iff, beq_iff_eq, decide_eq_true_eq]; omega
      have e2 : ((s[i].toNat : Int) == 69) = decide (s[i].toNat = 69) := by rw [Bool.eq_iff_iff, beq_iff_eq, decide_eq_true_eq]; omega
      by_cases h2 : i + 1 < s.length
      · have d2 : decide ((i : Int) + 1 < (s.length : Int)) = true := decide_eq_true (by omega)
        have x2 := get_str h2
        rw [getD_of h2] at hpw
        by_cases q2 : s[i + 1].toNat = 43 ∨ s[i + 1].toNat = 45
        · rw [if_pos ⟨h2, q2⟩] at hpw
          by_cases c3 : digs (s.drop (i + 2)) = 0
          · have d3 : decide (0 < (digs (s.drop (i + 2)) : Int)) = false := decide_eq_false (by omega)
            rw [if_pos c3] at hpw
            rw [if_pos hpw]
            rcases q with q | q <;> rcases q2 with q2 | q2 <;> rw [q] at e1 e2
            all_goals
              have u1 : ((s[i + 1].toNat : Int) == 43) = decide (s[i + 1].toNat = 43) := by rw [Bool.eq_iff_iff, beq_iff_eq, decide_eq_true_eq]; omega
              have u2 : ((s[i + 1].toNat : Int) == 45) = decide (s[i + 1].toNat = 45) := by rw [Bool.eq_iff_iff, beq_iff_eq, decide_eq_true_eq]; omega
              rw [q2] at u1 u2
              repeat' first | refine .s1 ?_ | (refine .cond rfl ?_ ?_ <;> intro hc) | (refine A.guard rfl ?_ ?_ <;> intro hc) | refine A.index_s (j := i) rfl rfl rfl rfl rfl (by assumption) ?_ | refine A.index_s (j := i + 1) rfl rfl rfl rfl rfl (by assumption) ?_ | fail
              all_goals first | exact Fin.two rfl rfl (Weak.refl _) | (exfalso; simp_all; done)
          · have d3 : decide (0 < (digs (s.drop (i + 2)) : Int)) = true := decide_eq_true (by omega)
            rw [if_neg c3] at hpw
            rw [if_neg (by omega), hpw]
            rcases q with q | q <;> rcases q2 with q2 | q2 <;> rw [q] at e1 e2
            all_goals
              have u1 : ((s[i + 1].toNat : Int) == 43) = decide (s[i + 1].toNat = 43) := by rw [Bool.eq_iff_iff, beq_iff_eq, decide_eq_true_eq]; omega
              have u2 : ((s[i + 1].toNat : Int) == 45) = decide (s[i + 1].toNat = 45) := by rw [Bool.eq_iff_iff, beq_iff_eq, decide_eq_true_eq]; omega
              rw [q2] at u1 u2
              repeat' first | refine .s1 ?_ | (refine .cond rfl ?_ ?_ <;> intro hc) | (refine A.guard rfl ?_ ?_ <;> intro hc) | refine A.index_s (j := i) rfl rfl rfl rfl rfl (by assumption) ?_ | refine A.index_s (j := i + 1) rfl rfl rfl rfl rfl (by assumption) ?_ | fail
              all_goals first | (refine Fin.two rfl rfl (Weak.eq ?_); congr 2; congr 1; omega) | (exfalso; simp_all; done)
        · rw [if_neg (fun h => q2 h.2)] at hpw
          have u1 : ((s[i + 1].toNat : Int) == 43) = false := beq_no (by omega)
          have u2 : ((s[i + 1].toNat : Int) == 45) = false := beq_no (by omega)
          by_cases c3 : digs (s.drop (i + 1)) = 0
          · have d3 : decide (0 < (digs (s.drop (i + 1)) : Int)) = false := decide_eq_false (by omega)
            rw [if_pos c3] at hpw
            rw [if_pos hpw]
            rcases q with q | q <;> rw [q] at e1 e2
            all_goals
              repeat' first | refine .s1 ?_ | (refine .cond rfl ?_ ?_ <;> intro hc) | (refine A.guard rfl ?_ ?_ <;> intro hc) | refine A.index_s (j := i) rfl rfl rfl rfl rfl (by assumption) ?_ | refine A.index_s (j := i + 1) rfl rfl rfl rfl rfl (by assumption) ?_ | fail
              all_goals first | exact Fin.two rfl rfl (Weak.refl _) | (exfalso; simp_all; done)
          · have d3 : decide (0 < (digs (s.drop (i + 1)) : Int)) = true := decide_eq_true (by omega)
            rw [if_neg c3] at hpw
            rw [if_neg (by omega), hpw]
            rcases q with q | q <;> rw [q] at e1 e2
            all_goals
              repeat' first | refine .s1 ?_ | (refine .cond rfl ?_ ?_ <;> intro hc) | (refine A.guard rfl ?_ ?_ <;> intro hc) | refine A.index_s (j := i) rfl rfl rfl rfl rfl (by assumption) ?_ | refine A.index_s (j := i + 1) rfl rfl rfl rfl rfl (by assumption) ?_ | fail
              all_goals first | (refine Fin.two rfl rfl (Weak.eq ?_); congr 2; congr 1; omega) | (exfalso; simp_all; done)
      · have d2 : decide ((i : Int) + 1 < (s.length : Int)) = false := decide_eq_false (by omega)
        have c3 : digs (s.drop (i + 1)) = 0 := by rw [List.drop_eq_nil_of_le (by omega)]; rfl
        have d3 : decide (0 < (digs (s.drop (i + 1)) : Int)) = false := decide_eq_false (by omega)
        rw [if_neg (fun h => h2 h.1), if_pos c3] at hpw
        rw [if_pos hpw]
        rcases q with q | q <;> rw [q] at e1 e2
        all_goals
          repeat' first | refine .s1 ?_ | (refine .cond rfl ?_ ?_ <;> intro hc) | (refine A.guard rfl ?_ ?_ <;> intro hc) | refine A.index_s (j := i) rfl rfl rfl rfl rfl (by assumption) ?_ | fail
          all_goals first | exact Fin.two rfl rfl (Weak.refl _) | (exfalso; simp_all; done)
    · rw [if_neg q] at hpw
      have e1 : ((s[i].toNat : Int) == 101) = false := beq_no (by omega)
      have e2 : ((s[i].toNat : Int) == 69) = false := beq_no (by omega)
      rw [if_pos hpw]
      repeat' first | refine .s1 ?_ | (refine .cond rfl ?_ ?_ <;> intro hc) | (refine A.guard rfl ?_ ?_ <;> intro hc) | refine A.index_s (j := i) rfl rfl rfl rfl rfl (by assumption) ?_ | fail
      exact Fin.two rfl rfl (Weak.refl _)
  · have d1 : decide ((i : Int) < (s.length : Int)) = false := decide_eq_false (by omega)
    rw [if_pos (powN_end (by omega))]
    refine .go ?_
    exact Fin.two rfl rfl (Weak.refl _)
theorem pfx_cons (d c : UInt8) (r : Str) : pfx [d] (c :: r) = (c == d) := by rw [Bool.eq_iff_iff]; simp [pfx]
theorem num2 (s : Str) (i : Nat) (hs : s.length ≤ 4611686018427387000) (hi : i ≤ s.length) :
    HCode Tryz.prog Tryz.f297.ntmps [] (tailOf 7 (bodyOf Tryz.f297)) (fin [2, 3] (fun e _ => ∃ v, e = .ret v ∧ Weak v (.tup [.int .i64 (expN s (dotN s i).1 (dotN s i).2).1, .int .i64 (expN s (dotN s i).1 (dotN s i).2).2])))
      [(0, .str s), (4, .int .i64 (i : Int)), (6, .int .i64 3)] ⟨[], []⟩ := by
  unfold dotN
  by_cases h1 : i < s.length
  · have d1 : decide ((i : Int) < (s.length : Int)) = true := decide_eq_true (by omega)
    have x1 := get_str h1
    have hr1 := rRun s (i + 1) (by omega) (by omega)
    have hle1 := digs_le (s.drop (i + 1))
    rw [List.length_drop] at hle1
    have hpx : pfx [46] (s.drop i) = (s[i] == 46) := by
      rw [List.drop_eq_getElem_cons h1, pfx_cons]
    by_cases q : s[i] = 46
    · have e1 : ((s[i].toNat : Int) == 46) = true := by rw [q]; rfl
      rw [hpx, if_pos (by simpa using q)]
      by_cases c3 : digs (s.drop (i + 1)) = 0
      · have d3 : decide (0 < (digs (s.drop (i + 1)) : Int)) = false := decide_eq_false (by omega)
        rw [if_pos c3]
        have hend := num3 s i 3 hs hi
        repeat' first | (refine HCode.weaken hend ?_; exact ⟨rfl, rfl, rfl, trivial⟩) | refine .s1 ?_ | (refine .cond rfl ?_ ?_ <;> intro hc) | (refine A.guard rfl ?_ ?_ <;> intro hc) | refine A.index_s (j := i) rfl rfl rfl rfl rfl (by assumption) ?_ | fail
      · have d3 : decide (0 < (digs (s.drop (i + 1)) : Int)) = true := decide_eq_true (by omega)
        rw [if_neg c3]
        have hend := num3 s (i + 1 + digs (s.drop (i + 1))) 4 hs (by omega)
        repeat' first | (refine HCode.weaken hend ?_; exact ⟨rfl, rfl, rfl, trivial⟩) | refine .s1 ?_ | (refine .cond rfl ?_ ?_ <;> intro hc) | (refine A.guard rfl ?_ ?_ <;> intro hc) | refine A.index_s (j := i) rfl rfl rfl rfl rfl (by assumption) ?_ | fail
    · have e1 : ((s[i].toNat : Int) == 46) = false := beq_no (fun h => q (UInt8.toNat_inj.1 (by
        have : s[i].toNat = 46 := by omega
        rw [this]; rfl)))
      rw [hpx, if_neg (by simpa using q)]
      have hend := num3 s i 3 hs hi
      repeat' first | (refine HCode.weaken hend ?_; exact ⟨rfl, rfl, rfl, trivial⟩) | refine .s1 ?_ | (refine .cond rfl ?_ ?_ <;> intro hc) | (refine A.guard rfl ?_ ?_ <;> intro hc) | refine A.index_s (j := i) rfl rfl rfl rfl rfl (by assumption) ?_ | fail
  · have d1 : decide ((i : Int) < (s.length : Int)) = false := decide_eq_false (by omega)
    have hpx : pfx [46] (s.drop i) = false := by rw [List.drop_eq_nil_of_le (by omega)]; rfl
    rw [hpx, if_neg (by decide)]
    have hend := num3 s i 3 hs hi
    repeat' first | (refine HCode.weaken hend ?_; exact ⟨rfl, rfl, rfl, trivial⟩) | refine .s1 ?_ | (refine .cond rfl ?_ ?_ <;> intro hc) | (refine A.guard rfl ?_ ?_ <;> intro hc) | fail
theorem numK_eq (s : Str) : numK s = if wholeN s = 0 then (0, 0) else expN s (dotN s (wholeN s)).1 (dotN s (wholeN s)).2 := by
  unfold numK expN
  split
  · rfl
  · split <;> rfl
theorem rnumeral (s : Str) (hs : s.length ≤ 4611686018427387000) : PFn Tryz.prog 297 [.str s] (.tup [.int .i64 (numK s).1, .int .i64 (numK s).2]) := by
  refine AFn.plain rfl rfl (AFn.enter [2, 3] Tryz.func297 rfl rfl rfl rfl rfl (by decide) ?_)
  rw [numK_eq]
  have hle := wholeN_le s
  by_cases h0 : s.length = 0
  · obtain rfl := List.eq_nil_of_length_eq_zero h0
    have hr := rRun [] 0 (by simp) (by simp)
    have e0 : digs (([] : Str).drop 0) = 0 := rfl
    rw [e0] at hr
    refine .go ?_
    exact Fin.two rfl rfl (Weak.refl _)
  · have h0' : 0 < s.length := by omega
    have d0 : decide ((0 : Int) < (s.length : Int)) = true := decide_eq_true (by omega)
    have x0 := get_str h0'
    have hpx : pfx [45] s = (s[0] == 45) := by
      cases s with
      | nil => simp at h0'
      | cons c s => rw [Bool.eq_iff_iff]; simp [pfx]
    have main : ∀ i0 : Nat, i0 ≤ s.length → wholeN s = wholeAt s i0 → (digs (s.drop i0) = 0 ∨ ((digs (s.drop i0) : Int) ≠ 0 ∧ ∃ h : i0 < s.length, wholeN s = if s[i0] = 48 then i0 + 1 else i0 + digs (s.drop i0))) := fun i0 hi hw => by
      by_cases c : digs (s.drop i0) = 0
      · exact .inl c
      · have hd := digs_le (s.drop i0)
        rw [List.length_drop] at hd
        have hlt : i0 < s.length := by omega
        refine .inr ⟨by omega, hlt, ?_⟩
        rw [hw, wholeAt, if_neg c, get_str hlt]
        simp
    by_cases q : s[0] = 45
    · have e1 : ((s[0].toNat : Int) == 45) = true := by rw [q]; rfl
      have hw : wholeN s = wholeAt s 1 := by rw [wholeN, hpx, if_pos (by simpa using q)]
      have hr := rRun s 1 (by omega) (by omega)
      have hd := digs_le (s.drop 1)
      rw [List.length_drop] at hd
      rcases main 1 (by omega) hw with c | ⟨c, hlt, hw2⟩
      · have e2 : ((digs (s.drop 1) : Int) == 0) = true := beq_yes (by omega)
        rw [hw, wholeAt, if_pos c, if_pos rfl]
        repeat' first | refine .s1 ?_ | (refine .cond rfl ?_ ?_ <;> intro hc) | (refine A.guard rfl ?_ ?_ <;> intro hc) | refine A.index_s (j := 0) rfl rfl rfl rfl rfl (by assumption) ?_ | fail
        exact Fin.two rfl rfl (Weak.refl _)
      · have e2 : ((digs (s.drop 1) : Int) == 0) = false := beq_no c
        have x2 := get_str hlt
        by_cases z : s[1] = 48
        · have e3 : ((s[1].toNat : Int) == 48) = true := by rw [z]; rfl
          rw [if_pos z] at hw2
          have hend := num2 s 2 hs (by omega)
          rw [hw2, if_neg (by omega)]
          repeat' first | (refine HCode.weaken hend ?_; exact ⟨rfl, rfl, rfl, trivial⟩) | refine .s1 ?_ | (refine .cond rfl ?_ ?_ <;> intro hc) | (refine A.guard rfl ?_ ?_ <;> intro hc) | refine A.index_s (j := 0) rfl rfl rfl rfl rfl (by assumption) ?_ | refine A.index_s (j := 1) rfl rfl rfl rfl rfl (by assumption) ?_ | fail
        · have e3 : ((s[1].toNat : Int) == 48) = false := beq_no (fun h => z (UInt8.toNat_inj.1 (by
            have : s[1].toNat = 48 := by omega
            rw [this]; rfl)))
          rw [if_neg z] at hw2
          have hend := num2 s (1 + digs (s.drop 1)) hs (by omega)
          rw [hw2, if_neg (by omega)]
          repeat' first | (refine HCode.weaken hend ?_; exact ⟨rfl, rfl, rfl, trivial⟩) | refine .s1 ?_ | (refine .cond rfl ?_ ?_ <;> intro hc) | (refine A.guard rfl ?_ ?_ <;> intro hc) | refine A.index_s (j := 0) rfl rfl rfl rfl rfl (by assumption) ?_ | refine A.index_s (j := 1) rfl rfl rfl rfl rfl (by assumption) ?_ | fail
    · have e1 : ((s[0].toNat : Int) == 45) = false := beq_no (fun h => q (UInt8.toNat_inj.1 (by
        have : s[0].toNat = 45 := by omega
        rw [this]; rfl)))
      have hw : wholeN s = wholeAt s 0 := by rw [wholeN, hpx, if_neg (by simpa using q)]
      have hr := rRun s 0 (by omega) (by omega)
      have hd := digs_le (s.drop 0)
      rw [List.length_drop] at hd
      rcases main 0 (by omega) hw with c | ⟨c, hlt, hw2⟩
      · have e2 : ((digs (s.drop 0) : Int) == 0) = true := beq_yes (by omega)
        rw [hw, wholeAt, if_pos c, if_pos rfl]
        repeat' first | refine .s1 ?_ | (refine .cond rfl ?_ ?_ <;> intro hc) | (refine A.guard rfl ?_ ?_ <;> intro hc) | refine A.index_s (j := 0) rfl rfl rfl rfl rfl (by assumption) ?_ | fail
        exact Fin.two rfl rfl (Weak.refl _)
      · have e2 : ((digs (s.drop 0) : Int) == 0) = false := beq_no c
        by_cases z : s[0] = 48
        · have e3 : ((s[0].toNat : Int) == 48) = true := by rw [z]; rfl
          rw [if_pos z] at hw2
          have hend := num2 s 1 hs (by omega)
          rw [hw2, if_neg (by omega)]
          repeat' first | (refine HCode.weaken hend ?_; exact ⟨rfl, rfl, rfl, trivial⟩) | refine .s1 ?_ | (refine .cond rfl ?_ ?_ <;> intro hc) | (refine A.guard rfl ?_ ?_ <;> intro hc) | refine A.index_s (j := 0) rfl rfl rfl rfl rfl (by assumption) ?_ | fail
        · have e3 : ((s[0].toNat : Int) == 48) = false := beq_no (fun h => z (UInt8.toNat_inj.1 (by
            have : s[0].toNat = 48 := by omega
            rw [this]; rfl)))
          rw [if_neg z] at hw2
          have hend := num2 s (0 + digs (s.drop 0)) hs (by omega)
          rw [hw2, if_neg (by omega)]
          repeat' first | (refine HCode.weaken hend ?_; exact ⟨rfl, rfl, rfl, trivial⟩) | refine .s1 ?_ | (refine .cond rfl ?_ ?_ <;> intro hc) | (refine A.guard rfl ?_ ?_ <;> intro hc) | refine A.index_s (j := 0) rfl rfl rfl rfl rfl (by assumption) ?_ | fail
theorem rNumber (s : Str) (hs : s.length ≤ 4611686018427387000) : PFn Tryz.prog 268 [.str s] (.int .i64 (numOf s)) := by
  refine AFn.plain rfl rfl (AFn.enter [2] Tryz.func268 rfl rfl rfl rfl rfl (by decide) ?_)
  have hn := rnumeral s hs
  unfold numOf
  by_cases c : (numK s).1 = s.length
  · have e : (((numK s).1 : Int) != (s.length : Int)) = false := by rw [c]; simp
    refine .go ?_
    refine Fin.ret1 rfl (Weak.eq ?_)
    rw [if_pos c]
  · have e : (((numK s).1 : Int) != (s.length : Int)) = true := by simp; omega
    refine .go ?_
    refine Fin.ret1 rfl (Weak.eq ?_)
    rw [if_neg c]
end Go.Proofs.YtgghkkeejagfkaaGreatDoor
namespace Go.Av
open Go
section
variable [Globals]
variable {P : Program} {all : Array Oper} {draw : Bool} {K : AX → Slots → St → Prop} {rest : List Oper} {acc : List Tag} {s : Slots} {σ : St} {d : Tmp} {ty : TypeId} {pos : String} {af : Array Edge}
theorem A.neg {x : Operand} {T : TypeId} {k : IntKind} {m r : Int} (h : ev? s x = some (.int k m)) (hr : k.wrap (0 - m) = r) (kk : AOps P all draw K rest (.pure :: acc) ((d, .int k r) :: s) σ) :
    AOps P all draw K (⟨some d, .unOp .neg T x, ty, pos, af, none⟩ :: rest) acc s σ :=
  A.step rfl (tpure fun g w a ho => by
    have h1 := ho x (by simp [Op.operands])
    rw [ev_of h] at h1
    have h1' : a.eval x = .int k m := h1
    refine ⟨.int k r, ?_, rfl⟩
    subst hr
    simp [execOp, h1', Op.unary, Op.intArith]) kk
end
end Go.Av
namespace Go.Proofs.YtgghkkeejagfkaaGreatDoor
open Go Go.Av
attribute [local irreducible] HCode AOps PFn AFn Av.Step TStep
theorem good_step {l : Str} (h : l ≠ []) : good l = if (codeL l).2 = 0 then false else good (l.drop (codeL l).2) := by
  unfold good codeL
  rw [Lib.validD_step l h]
  have hw := Lib.decodeL_width l
  by_cases c : (Lib.decodeL l).1 = 65533 ∧ (Lib.decodeL l).2 = 1
  · have e : Lib.decodeL l = (65533, 1) := Prod.ext c.1 c.2
    rw [if_pos c, if_pos e]; rfl
  · have e : Lib.decodeL l ≠ (65533, 1) := fun h => c (by rw [h]; exact ⟨rfl, rfl⟩)
    rw [if_neg c, if_neg e, if_neg (by omega)]
theorem codeL_le {l : Str} (h : l ≠ []) : (codeL l).2 ≤ l.length ∧ (codeL l).1 ≤ 1114111 := by
  unfold codeL
  split
  · simp
  · exact ⟨Lib.decodeL_le l h, Lib.decodeL_rune l⟩
theorem rCodes (s : Str) (hs : s.length ≤ 1048576) : PFn Tryz.prog 298 [.str s] (.tup [.undef, .bool (good s)]) := by
  refine AFn.plain rfl rfl (AFn.enter [2, 3] Tryz.func298 rfl rfl rfl rfl rfl (by decide) ?_)
  refine .go ?_
  change HCode _ _ _ _ _ _ _
  refine HCode.adopt 4 false 1 rfl rfl rfl rfl rfl rfl ?_
  refine HCode.loop (fun n σs σ => ∃ (i : Nat) (xs : List Int), n = s.length - i ∧ i ≤ s.length ∧ xs.length ≤ i ∧ good s = good (s.drop i) ∧ σ = ⟨[], [.len xs.length]⟩ ∧
    σs = [(5, .int .i64 (i : Int)), (4, .slice (xs.map (AV.int .i64)) (.own 0 1)), (0, .str s)])
    (s0 := [(5, .int .i64 ((0 : Nat) : Int)), (4, .slice (([] : List Int).map (AV.int .i64)) (.own 0 1)), (0, .str s)]) ⟨rfl, rfl, rfl, trivial⟩ ⟨0, [], rfl, Nat.zero_le _, Nat.le_refl _, rfl, rfl, rfl⟩ ?_
  rintro n σs σ ⟨i, xs, rfl, hi, hxs, hp, rfl, rfl⟩
  by_cases h1 : i < s.length
  · have d1 : decide ((i : Int) < (s.length : Int)) = true := decide_eq_true (by omega)
    have hne : s.drop i ≠ [] := by intro e; have := congrArg List.length e; rw [List.length_drop] at this; simp at this; omega
    have hc := rCode s i h1 (by omega)
    have hst := good_step hne
    have hcl := codeL_le hne
    rw [List.length_drop] at hcl
    unfold pairV at hc
    by_cases c : (codeL (s.drop i)).2 = 0
    · have e1 : (((codeL (s.drop i)).2 : Int) == 0) = true := beq_yes (by omega)
      refine .go ?_
      refine Fin.two rfl rfl (Weak.tup (WeakL.cons (Weak.undef _) (WeakL.cons (Weak.eq (congrArg AV.bool ?_)) (WeakL.refl _))))
      rw [hp, hst, if_pos c]
    · have e1 : (((codeL (s.drop i)).2 : Int) == 0) = false := beq_no (by omega)
      rw [if_neg c, List.drop_drop] at hst
      repeat' first | refine .s1 ?_ | (refine .cond rfl ?_ ?_ <;> intro hc) | (refine A.guard rfl ?_ ?_ <;> intro hc) | refine A.append (n := xs.length) rfl rfl rfl rfl rfl rfl rfl rfl (List.length_map ..) rfl (by dsimp only [List.length_cons, List.length_nil]; omega) (by dsimp only [List.length_cons, List.length_nil]; omega) rfl ?_ | fail
      refine ⟨s.length - (i + (codeL (s.drop i)).2), by omega, [(5, .int .i64 ((i + (codeL (s.drop i)).2 : Nat) : Int)), (4, .slice ((xs ++ [((codeL (s.drop i)).1 : Int)]).map (AV.int .i64)) (.own 0 1)), (0, .str s)],
        ⟨congrArg (AV.int .i64) (by omega), by rw [List.map_append]; rfl, rfl, trivial⟩, by simp [belowS, AV.low, -List.map_append], rfl, i + (codeL (s.drop i)).2, xs ++ [((codeL (s.drop i)).1 : Int)], rfl, by omega, by rw [List.length_append]; simp; omega, by rw [hp, hst], by rw [List.length_append]; rfl, rfl⟩
  · have d1 : decide ((i : Int) < (s.length : Int)) = false := decide_eq_false (by omega)
    refine .go ?_
    refine Fin.two rfl rfl (Weak.tup (WeakL.cons (Weak.undef _) (WeakL.cons (Weak.eq (congrArg AV.bool ?_)) (WeakL.refl _))))
    rw [hp, List.drop_eq_nil_of_le (by omega)]; rfl
theorem rGood (s : Str) (hs : s.length ≤ 1048576) : PFn Tryz.prog 270 [.str s] (.bool (good s)) := by
  have h := rCodes s hs
  refine AFn.plain rfl rfl (AFn.enter [2] Tryz.func270 rfl rfl rfl rfl rfl (by decide) ?_)
  refine .go ?_
  exact Fin.ret1 rfl (Weak.refl _)
def dOf (c : UInt8) : Nat := (c.toNat + 208) % 256
def limI (c : UInt8) : Int := Int.tdiv (-9223372036854775808 + (dOf c : Int)) 10
def foldI : Int → Str → Option Int
  | n, [] => some n
  | n, c :: r => if n < limI c then none else foldI (10 * n - dOf c) r
def negI (s : Str) : Bool := s.head? == some 45
def i64ok (s : Str) : Bool := match foldI 0 (if negI s = true then s.drop 1 else s) with
  | none => false
  | some n => negI s || n != -9223372036854775808
theorem foldI_drop {s : Str} {k : Nat} {n : Int} (h : k < s.length) : foldI n (s.drop k) = if n < limI s[k] then none else foldI (10 * n - dOf s[k]) (s.drop (k + 1)) := by
  rw [List.drop_eq_getElem_cons h, foldI]
theorem dOf_lt (c : UInt8) : dOf c < 256 := Nat.mod_lt _ (by decide)
theorem lim_iff (c : UInt8) (n : Int) : n < limI c ↔ 10 * n < -9223372036854775808 + (dOf c : Int) := by
  have hd := dOf_lt c
  unfold limI
  have e : Int.tdiv (-9223372036854775808 + (dOf c : Int)) 10 = -((9223372036854775808 - (dOf c : Int)) / 10) := by
    rw [show (-9223372036854775808 + (dOf c : Int)) = -(9223372036854775808 - (dOf c : Int)) by omega, Int.neg_tdiv, Int.tdiv_eq_ediv_of_nonneg (by omega)]
  rw [e]
  omega
theorem lim_in (c : UInt8) : -9223372036854775808 ≤ limI c ∧ limI c ≤ 0 := by
  have hd := dOf_lt c
  unfold limI
  have e : Int.tdiv (-9223372036854775808 + (dOf c : Int)) 10 = -((9223372036854775808 - (dOf c : Int)) / 10) := by
    rw [show (-9223372036854775808 + (dOf c : Int)) = -(9223372036854775808 - (dOf c : Int)) by omega, Int.neg_tdiv, Int.tdiv_eq_ediv_of_nonneg (by omega)]
  rw [e]
  omega
theorem lim_wrap (c : UInt8) : IntKind.i64.wrap (Int.tdiv (-9223372036854775808 + (dOf c : Int)) 10) = limI c := IntWalk.i64_in _ (by have := lim_in c; unfold limI at this; omega)
theorem conv_d (c : UInt8) : IntKind.i64.wrap (IntKind.u8.wrap ((c.toNat : Int) - 48)) = (dOf c : Int) := by
  have : ∀ c : Fin 256, IntKind.i64.wrap (IntKind.u8.wrap ((c.val : Int) - 48)) = (((c.val + 208) % 256 : Nat) : Int) := by decide +kernel
  exact this ⟨c.toNat, UInt8.toNat_lt c⟩
attribute [local irreducible] Int.decLt Int.decLe Int.le Int.lt limI in
theorem rInt64 (s : Str) (hs : s.length ≤ 1048576) : PFn Tryz.prog 269 [.str s] (.tup [.undef, .bool (i64ok s)]) := by
  refine AFn.plain rfl rfl (AFn.enter [2, 3] Tryz.func269 rfl rfl rfl rfl rfl (by decide) ?_)
  have loop : ∀ (i0 : Nat) (ng : Bool), i0 ≤ s.length → negI s = ng → (if negI s = true then s.drop 1 else s) = s.drop i0 →
      HCode Tryz.prog Tryz.f269.ntmps [] (tailOf 4 (bodyOf Tryz.f269)) (fin [2, 3] (fun e _ => ∃ v, e = .ret v ∧ Weak v (.tup [.undef, .bool (i64ok s)])))
        [(0, .str s), (4, .int .i64 (i0 : Int)), (5, .bool ng), (6, .int .i64 0)] ⟨[], []⟩ := fun i0 ng hi0 hng hdrop => by
    have hok : i64ok s = match foldI 0 (s.drop i0) with
      | none => false
      | some n => ng || n != -9223372036854775808 := by unfold i64ok; rw [hdrop, hng]
    refine .go ?_
    change HCode _ _ _ _ _ _ _
    refine HCode.loop (fun m σs σ => ∃ (k : Nat) (n : Int), m = s.length - k ∧ k ≤ s.length ∧ -9223372036854775808 ≤ n ∧ n ≤ 0 ∧ foldI 0 (s.drop i0) = foldI n (s.drop k) ∧ σ = ⟨[], []⟩ ∧
      σs = [(4, .int .i64 (k : Int)), (6, .int .i64 n), (0, .str s), (5, .bool ng)])
      (s0 := [(4, .int .i64 (i0 : Int)), (6, .int .i64 0), (0, .str s), (5, .bool ng)]) ⟨rfl, rfl, rfl, rfl, trivial⟩ ⟨i0, 0, rfl, hi0, by omega, by omega, rfl, rfl, rfl⟩ ?_
    rintro m σs σ ⟨k, n, rfl, hk, hn1, hn2, hp, rfl, rfl⟩
    by_cases h1 : k < s.length
    · have d1 : decide ((k : Int) < (s.length : Int)) = true := decide_eq_true (by omega)
      have x1 := get_str h1
      have hd := foldI_drop (n := n) h1
      have hl := lim_iff s[k] n
      have hli := lim_in s[k]
      have hdl := dOf_lt s[k]
      have hw := lim_wrap s[k]
      by_cases c : n < limI s[k]
      · have d2 : decide (n < limI s[k]) = true := decide_eq_true c
        repeat' first | refine .s1 ?_ | (refine .cond rfl ?_ ?_ <;> intro hc) | (refine A.guard rfl ?_ ?_ <;> intro hc) | refine .is ?_ | refine A.sub rfl rfl ?_ | refine A.conv rfl rfl rfl rfl (conv_d _) ?_ | refine A.quo rfl rfl (by decide) hw ?_ | fail
        refine Fin.two rfl rfl (Weak.tup (WeakL.cons (Weak.undef _) (WeakL.cons (Weak.eq (congrArg AV.bool ?_)) (WeakL.refl _))))
        rw [hok, hp, hd, if_pos c]
      · have d2 : decide (n < limI s[k]) = false := decide_eq_false c
        have h10 : -9223372036854775808 + (dOf s[k] : Int) ≤ 10 * n := by
          have := mt hl.2 c
          omega
        repeat' first | refine .s1 ?_ | (refine .cond rfl ?_ ?_ <;> intro hc) | (refine A.guard rfl ?_ ?_ <;> intro hc) | refine .is ?_ | refine A.sub64 rfl rfl rfl (by omega) ?_ | refine A.sub rfl rfl ?_ | refine A.conv rfl rfl rfl rfl (conv_d _) ?_ | refine A.quo rfl rfl (by decide) hw ?_ | refine A.mul64 rfl rfl rfl (by omega) ?_ | fail
        refine ⟨s.length - (k + 1), by omega, [(4, .int .i64 ((k + 1 : Nat) : Int)), (6, .int .i64 (10 * n - (dOf s[k] : Int))), (0, .str s), (5, .bool ng)], ⟨rfl, rfl, rfl, rfl, trivial⟩, by simp [belowS, AV.low], rfl, k + 1, 10 * n - (dOf s[k] : Int), rfl, by omega, by omega, by omega, by rw [hp, hd, if_neg c], rfl, rfl⟩
    · have d1 : decide ((k : Int) < (s.length : Int)) = false := decide_eq_false (by omega)
      have hend : foldI 0 (s.drop i0) = some n := by rw [hp, List.drop_eq_nil_of_le (by omega), foldI]
      rw [hend] at hok
      cases hg : ng with
      | true =>
        subst hg
        refine .go ?_
        refine Fin.two rfl rfl (Weak.tup (WeakL.cons (Weak.undef _) (WeakL.cons (Weak.eq (congrArg AV.bool ?_)) (WeakL.refl _))))
        rw [hok]; rfl
      | false =>
        subst hg
        simp only [Bool.false_or] at hok
        by_cases c : n = -9223372036854775808
        · have e1 : (n == -9223372036854775808) = true := beq_yes c
          refine .go ?_
          refine Fin.two rfl rfl (Weak.tup (WeakL.cons (Weak.undef _) (WeakL.cons (Weak.eq (congrArg AV.bool ?_)) (WeakL.refl _))))
          rw [hok, c]; rfl
        · have e1 : (n == -9223372036854775808) = false := beq_no c
          repeat' first | refine .s1 ?_ | (refine .cond rfl ?_ ?_ <;> intro hc) | (refine A.guard rfl ?_ ?_ <;> intro hc) | refine A.neg rfl (IntWalk.i64_in _ (by omega)) ?_ | fail
          refine Fin.two rfl rfl (Weak.tup (WeakL.cons (Weak.undef _) (WeakL.cons (Weak.eq (congrArg AV.bool ?_)) (WeakL.refl _))))
          rw [hok, bne, e1]; rfl
  by_cases h0 : s = []
  · have hl := loop 0 false (by omega) (by rw [h0]; rfl) (by rw [h0]; rfl)
    subst h0
    repeat' first | (refine HCode.weaken hl ?_; exact ⟨rfl, rfl, rfl, rfl, trivial⟩) | refine .s1 ?_ | (refine .cond rfl ?_ ?_ <;> intro hc) | (refine A.guard rfl ?_ ?_ <;> intro hc) | fail
  · have e0 : (s != []) = true := by simpa using h0
    have hlen : 0 < s.length := List.length_pos_iff.2 h0
    have x0 := get_str hlen
    have hh : s.head? = some s[0] := by cases s with
      | nil => exact absurd rfl h0
      | cons c r => rfl
    by_cases q : s[0] = 45
    · have e1 : ((s[0].toNat : Int) == 45) = true := by rw [q]; rfl
      have hng : negI s = true := by unfold negI; rw [hh, q]; rfl
      have hl := loop 1 true (by omega) hng (by rw [if_pos hng])
      repeat' first | (refine HCode.weaken hl ?_; exact ⟨rfl, rfl, rfl, rfl, trivial⟩) | refine .s1 ?_ | (refine .cond rfl ?_ ?_ <;> intro hc) | (refine A.guard rfl ?_ ?_ <;> intro hc) | refine A.index_s (j := 0) rfl rfl rfl rfl rfl (by assumption) ?_ | fail
    · have e1 : ((s[0].toNat : Int) == 45) = false := beq_no (fun h => q (UInt8.toNat_inj.1 (by
        have : s[0].toNat = 45 := by omega
        rw [this]; rfl)))
      have hng : negI s = false := by unfold negI; rw [hh]; simpa using q
      have hl := loop 0 false (by omega) hng (by rw [if_neg (by rw [hng]; decide)]; rfl)
      repeat' first | (refine HCode.weaken hl ?_; exact ⟨rfl, rfl, rfl, rfl, trivial⟩) | refine .s1 ?_ | (refine .cond rfl ?_ ?_ <;> intro hc) | (refine A.guard rfl ?_ ?_ <;> intro hc) | refine A.index_s (j := 0) rfl rfl rfl rfl rfl (by assumption) ?_ | fail
section
theorem digs_all : ∀ l : Str, digs l = l.length → ∀ c ∈ l, digC c = true
  | [], _, c, h => by simp at h
  | x :: l, h, c, hc => by
    rw [digs] at h
    by_cases e : digC x = true
    · rw [if_pos e] at h
      have h' : digs l = l.length := by simpa using h
      rcases List.mem_cons.1 hc with rfl | hc
      · exact e
      · exact digs_all l h' c hc
    · rw [if_neg e] at h; simp at h
theorem num_whole {s : Str} (h : numOf s = 3) : wholeN s = s.length ∧ wholeN s ≠ 0 := by
  unfold numOf at h
  by_cases c : (numK s).1 = s.length
  · rw [if_pos c] at h
    rw [numK_eq] at c h
    by_cases w : wholeN s = 0
    · rw [if_pos w] at h; simp at h
    · rw [if_neg w] at c h
      refine ⟨?_, w⟩
      unfold expN at c h
      split at c
      · rename_i hp
        rw [if_pos hp] at h
        simp only at c h
        unfold dotN at c h
        split at c
        · rename_i hq
          rw [if_pos hq] at h
          split at c
          · rename_i hz
            exact c
          · rename_i hz
            rw [if_neg hz] at h; simp at h
        · exact c
      · rename_i hp
        rw [if_neg hp] at h; simp at h
  · rw [if_neg c] at h; simp at h
theorem whole_digits {s : Str} {n : Nat} (h : wholeAt s n = s.length) (h0 : s.length ≠ 0) : s.drop n ≠ [] ∧ ∀ c ∈ s.drop n, digC c = true := by
  unfold wholeAt at h
  split at h
  · exact absurd h.symm h0
  · rename_i hd
    have hle := digs_le (s.drop n)
    rw [List.length_drop] at hle
    refine ⟨fun e => ?_, ?_⟩
    · rw [e] at hd; exact hd rfl
    · split at h
      · rename_i hz
        have hn : n < s.length := by omega
        have e1 : s.drop n = [s[n]] := by rw [List.drop_eq_getElem_cons hn, List.drop_eq_nil_of_le (by omega)]
        have e2 : s[n] = 48 := by rw [get_str hn] at hz; exact Option.some.inj hz
        rw [e1, e2]
        intro c hc
        simp at hc; subst hc; decide
      · exact digs_all _ (by rw [List.length_drop]; omega)
def valD (acc : Nat) (l : Str) : Nat := l.foldl (fun a c => a * 10 + (c.toNat - 48)) acc
theorem valD_nil (acc : Nat) : valD acc [] = acc := rfl
theorem valD_cons (acc : Nat) (c : UInt8) (r : Str) : valD acc (c :: r) = valD (acc * 10 + (c.toNat - 48)) r := by unfold valD; rw [List.foldl_cons]
theorem valD_ge (l : Str) (acc : Nat) : acc ≤ valD acc l := by
  induction l generalizing acc with
  | nil => rw [valD_nil]; exact Nat.le_refl _
  | cons c r ih =>
    have := ih (acc * 10 + (c.toNat - 48))
    rw [valD_cons]; omega
theorem digC_iff {c : UInt8} : digC c = true ↔ 48 ≤ c.toNat ∧ c.toNat ≤ 57 := by simp [digC]
theorem dOf_dig {c : UInt8} (h : digC c = true) : dOf c = c.toNat - 48 := by
  have := digC_iff.1 h
  unfold dOf; omega
theorem foldI_digits : ∀ (l : Str) (acc : Nat), (∀ c ∈ l, digC c = true) → acc ≤ 9223372036854775808 → foldI (-(acc : Int)) l = if valD acc l ≤ 9223372036854775808 then some (-(valD acc l : Int)) else none
  | [], acc, _, ha => by rw [foldI, valD_nil, if_pos ha]
  | c :: r, acc, h, ha => by
    have hc := h c (by simp)
    have hd := dOf_dig hc
    have hl := lim_iff c (-(acc : Int))
    have hg := valD_ge r (acc * 10 + (c.toNat - 48))
    rw [foldI, valD_cons]
    by_cases k : -(acc : Int) < limI c
    · rw [if_pos k]
      have := hl.1 k
      rw [if_neg (by omega)]
    · rw [if_neg k]
      have := mt hl.2 k
      have e : 10 * -(acc : Int) - (dOf c : Int) = -((acc * 10 + (c.toNat - 48) : Nat) : Int) := by omega
      rw [e, foldI_digits r _ (fun x hx => h x (List.mem_cons_of_mem _ hx)) (by omega)]
theorem parseM_digits : ∀ (l : Str) (acc : Nat), (∀ c ∈ l, digC c = true) → acc ≤ 18446744073709551615 → Lib.parseUintM 18446744073709551615 acc l = if valD acc l ≤ 18446744073709551615 then .ok (valD acc l) else .range
  | [], acc, _, ha => by rw [Lib.parseUintM, valD_nil, if_pos ha]
  | c :: r, acc, h, ha => by
    have hc := digC_iff.1 (h c (by simp))
    have hg := valD_ge r (acc * 10 + (c.toNat - 48))
    rw [Lib.parseUintM, valD_cons, if_pos hc]
    by_cases k : 1844674407370955162 ≤ acc
    · rw [if_pos k, if_neg (by omega)]
    · rw [if_neg k]
      by_cases k2 : 18446744073709551615 < acc * 10 + (c.toNat - 48)
      · rw [if_pos k2, if_neg (by omega)]
      · rw [if_neg k2, parseM_digits r _ (fun x hx => h x (List.mem_cons_of_mem _ hx)) (by omega)]
theorem parseU_digits {l : Str} (hne : l ≠ []) (h : ∀ c ∈ l, digC c = true) : Lib.parseUintB 64 l = if valD 0 l ≤ 18446744073709551615 then .ok (valD 0 l) else .range := by
  rw [Lib.parseUintB, if_neg hne]
  exact parseM_digits l 0 h (by omega)
theorem int_ok {s : Str} (h : numOf s = 3) : i64ok s = intIs s := by
  obtain ⟨hw, h0⟩ := num_whole h
  cases s with
  | nil => simp at hw; exact absurd hw h0
  | cons c r =>
    rw [wholeN, pfx_cons] at hw
    by_cases q : c = 45
    · subst q
      rw [if_pos (by decide)] at hw
      obtain ⟨hne, hd⟩ := whole_digits hw (by simp)
      have hne' : r ≠ [] := hne
      have hd' : ∀ x ∈ r, digC x = true := hd
      have hng : negI (45 :: r) = true := rfl
      have hf := foldI_digits r 0 hd' (by omega)
      have hf' : foldI 0 r = if valD 0 r ≤ 9223372036854775808 then some (-(valD 0 r : Int)) else none := hf
      unfold i64ok intIs
      rw [hng, if_pos rfl, Lib.parseIntB_minus, parseU_digits hne' hd']
      show (match foldI 0 r with | none => false | some n => true || n != -9223372036854775808) = _
      rw [hf']
      by_cases k : valD 0 r ≤ 9223372036854775808
      · rw [if_pos k, if_pos (by omega)]
        unfold Lib.signedC
        simp only [Nat.reduceSub, Nat.reducePow]
        rw [if_neg (by omega)]; rfl
      · rw [if_neg k]
        by_cases k2 : valD 0 r ≤ 18446744073709551615
        · rw [if_pos k2]
          unfold Lib.signedC
          simp only [Nat.reduceSub, Nat.reducePow]
          rw [if_pos (by omega)]
        · rw [if_neg k2]; rfl
    · have hq : (c == 45) = false := by simpa using q
      rw [hq, if_neg (by decide)] at hw
      obtain ⟨hne, hd⟩ := whole_digits hw (by simp)
      have hne' : (c :: r) ≠ [] := by simp
      have hd' : ∀ x ∈ (c :: r), digC x = true := hd
      have hc := digC_iff.1 (hd' c (by simp))
      have hng : negI (c :: r) = false := by unfold negI; simpa using q
      have hf := foldI_digits (c :: r) 0 hd' (by omega)
      have hf' : foldI 0 (c :: r) = if valD 0 (c :: r) ≤ 9223372036854775808 then some (-(valD 0 (c :: r) : Int)) else none := hf
      unfold i64ok intIs
      rw [hng, if_neg (by decide), Lib.parseIntB_plain 64 c r (by omega) (by omega), parseU_digits hne' hd', hf']
      generalize valD 0 (c :: r) = V
      by_cases k : V ≤ 9223372036854775808
      · rw [if_pos k, if_pos (by omega)]
        unfold Lib.signlessC
        simp only [Nat.reduceSub, Nat.reducePow]
        by_cases k3 : 9223372036854775808 ≤ V
        · rw [if_pos k3]
          have : (V : Int) = 9223372036854775808 := by omega
          rw [this]; rfl
        · rw [if_neg k3]
          simp; omega
      · rw [if_neg k]
        by_cases k2 : V ≤ 18446744073709551615
        · rw [if_pos k2]
          unfold Lib.signlessC
          simp only [Nat.reduceSub, Nat.reducePow]
          rw [if_pos (by omega)]
        · rw [if_neg k2]; rfl
theorem num_cases (s : Str) : numOf s = 0 ∨ numOf s = 3 ∨ numOf s = 4 := by
  unfold numOf
  split
  · rw [numK_eq]
    split
    · exact .inl rfl
    · unfold expN
      split
      · unfold dotN
        split
        · split
          · exact .inr (.inl rfl)
          · exact .inr (.inr rfl)
        · exact .inr (.inl rfl)
      · exact .inr (.inr rfl)
  · exact .inl rfl
theorem num_nil : numOf [] = 0 := rfl
theorem numB_eq (s : Str) : numB s = if s = [] ∨ numOf s = 0 then false else (numOf s == 4 || !i64ok s) := by
  unfold numB
  by_cases h0 : s = []
  · subst h0; rw [if_pos (.inl rfl), num_nil]; rfl
  · rcases num_cases s with h | h | h
    · rw [if_pos (.inr h), h]; rfl
    · rw [if_neg (fun e => e.elim h0 (fun e0 => by omega)), int_ok h, h]; simp
    · rw [if_neg (fun e => e.elim h0 (fun e0 => by omega)), h]; simp
end
end Go.Proofs.YtgghkkeejagfkaaGreatDoor
