/-
  The reference: Code, whole.
-/
import Derived.Test.YtijlmchfepjjkaaGreatDoorMCode2
namespace Go.Proofs.YtijlmchfepjjkaaGreatDoor
open Go Go.Av
set_option maxRecDepth 100000
set_option maxHeartbeats 16000000
set_option linter.unusedVariables false
set_option linter.unusedSimpArgs false
attribute [local irreducible] HCode AOps PFn AFn Av.Step TStep

theorem code_is {s : Str} {i : Nat} (hi : i < s.length) : codeL (s.drop i) = codeP (s.length - i) s[i].toNat (byteAt s i 1) (byteAt s i 2) (byteAt s i 3) := by
  have g0 : byteAt s i 0 = s[i].toNat := byteAt_of (k := 0) hi
  rw [codeL_eq, ← g0]; rfl
theorem code_2 {s : Str} {i : Nat} (hi : i < s.length) (h : 194 ≤ s[i].toNat ∧ s[i].toNat < 224) : codeL (s.drop i) = restC s i 2 128 (s[i].toNat % 32) := by
  rw [code_is hi, codeP, if_neg (by omega), if_pos h]
  unfold restC
  simp only [contAll, contB, cAcc, Nat.reduceSub, Bool.and_true, Bool.and_eq_true, decide_eq_true_eq]
  by_cases a : 2 ≤ s.length - i
  · rw [if_pos a]
    by_cases b : 128 ≤ byteAt s i 1 ∧ byteAt s i 1 ≤ 191
    · rw [if_pos ⟨a, b⟩, if_pos b]
    · rw [if_neg (fun h => b h.2), if_neg b]
  · rw [if_neg (fun h => a h.1), if_neg a]
theorem code_3 {s : Str} {i : Nat} (hi : i < s.length) (h : 224 ≤ s[i].toNat ∧ s[i].toNat < 240) : codeL (s.drop i) = restC s i 3 2048 (s[i].toNat % 16) := by
  rw [code_is hi, codeP, if_neg (by omega), if_neg (by omega), if_pos h]
  unfold restC
  simp only [contAll, contB, cAcc, Nat.reduceSub, Bool.and_true, Bool.and_eq_true, decide_eq_true_eq]
  by_cases a : 3 ≤ s.length - i
  · rw [if_pos a]
    by_cases b : (128 ≤ byteAt s i 1 ∧ byteAt s i 1 ≤ 191) ∧ (128 ≤ byteAt s i 2 ∧ byteAt s i 2 ≤ 191)
    · rw [if_pos ⟨a, b⟩, if_pos b]
    · rw [if_neg (fun h => b h.2), if_neg b]
  · rw [if_neg (fun h => a h.1), if_neg a]
theorem code_4 {s : Str} {i : Nat} (hi : i < s.length) (h : 240 ≤ s[i].toNat ∧ s[i].toNat < 245) : codeL (s.drop i) = restC s i 4 65536 (s[i].toNat % 8) := by
  rw [code_is hi, codeP, if_neg (by omega), if_neg (by omega), if_neg (by omega), if_pos h]
  unfold restC
  simp only [contAll, contB, cAcc, Nat.reduceSub, Bool.and_true, Bool.and_eq_true, decide_eq_true_eq]
  by_cases a : 4 ≤ s.length - i
  · rw [if_pos a]
    by_cases b : (128 ≤ byteAt s i 1 ∧ byteAt s i 1 ≤ 191) ∧ (128 ≤ byteAt s i 2 ∧ byteAt s i 2 ≤ 191) ∧ (128 ≤ byteAt s i 3 ∧ byteAt s i 3 ≤ 191)
    · rw [if_pos ⟨a, b⟩, if_pos b]
    · rw [if_neg (fun h => b h.2), if_neg b]
  · rw [if_neg (fun h => a h.1), if_neg a]
theorem code_1 {s : Str} {i : Nat} (hi : i < s.length) (h : s[i].toNat < 128) : codeL (s.drop i) = (s[i].toNat, 1) := by
  rw [code_is hi, codeP, if_pos h]
theorem code_0 {s : Str} {i : Nat} (hi : i < s.length) (h0 : ¬ s[i].toNat < 128) (h2 : ¬ (194 ≤ s[i].toNat ∧ s[i].toNat < 224)) (h3 : ¬ (224 ≤ s[i].toNat ∧ s[i].toNat < 240)) (h4 : ¬ (240 ≤ s[i].toNat ∧ s[i].toNat < 245)) : codeL (s.drop i) = (0, 0) := by
  rw [code_is hi, codeP, if_neg h0, if_neg h2, if_neg h3, if_neg h4]

attribute [local irreducible] Int.decLt Int.decLe Int.le Int.lt in
theorem rCode (s : Str) (i : Nat) (hi : i < s.length) (hs : s.length ≤ 4611686018427387904) :
    PFn Tryz.prog 85 [.str s, .int .i64 (i : Int)] (pairV (codeL (s.drop i))) := by
  have x0 := get_str hi
  have hb0 := UInt8.toNat_lt s[i]
  have hbN : s[i].toNat < 9223372036854775808 := by omega
  have e1 : decide ((i : Int) < 0) = false := decide_eq_false (by omega)
  have e2 : decide ((i : Int) ≥ (s.length : Int)) = false := decide_eq_false (by omega)
  by_cases c1 : s[i].toNat < 128
  · have d1 : decide ((s[i].toNat : Int) < 128) = true := decide_eq_true (by omega)
    rw [code_1 hi c1]
    refine AFn.plain rfl rfl (AFn.enter [4, 5] Tryz.func85 rfl rfl rfl rfl rfl (by decide) ?_)
    repeat' first
      | refine .seq ?_ | refine .rg ?_ | refine .rd ?_ | refine .block ?_ | refine .scope ?_ | refine .skip ?_ | refine .label ?_ | refine .exit ?_ | refine .ret ?_
      | refine .ct ?_ | refine .cf ?_ | refine .cy ?_ | refine .cn ?_ | (refine .cond rfl ?_ ?_ <;> intro hc)
      | refine A.nil_seq ?_ | refine .nl ?_ | refine .dd ?_ | refine .ys ?_ | refine .no ?_ | (refine A.guard rfl ?_ ?_ <;> intro hc)
      | refine .lb ?_ | refine .ln ?_ | refine .ls ?_ | refine .pv ?_ | refine .ix ?_ | refine .pt ?_ | refine .pf ?_ | refine .bx ?_ | refine .al ?_ | refine .st ?_ | refine .ad ?_ | refine .sb ?_ | refine .mf ?_ | refine .cl ?_ | refine .cw ?_ | refine .ck ?_
      | refine A.index_s rfl rfl rfl rfl rfl (by assumption) ?_ | refine A.conv rfl rfl rfl rfl (conv_u8 _) ?_ | fail
    exact Fin.two rfl rfl (Weak.refl _)
  · have d1 : decide ((s[i].toNat : Int) < 128) = false := decide_eq_false (by omega)
    by_cases c2 : 194 ≤ s[i].toNat ∧ s[i].toNat < 224
    · have f1 : decide ((s[i].toNat : Int) ≥ 194) = true := decide_eq_true (by omega)
      have f2 : decide ((s[i].toNat : Int) < 224) = true := decide_eq_true (by omega)
      have hrest := codeRest s i 2 128 (s[i].toNat % 32) hi hs ⟨by decide, by decide⟩ (by omega)
      rw [code_2 hi c2]
      refine AFn.plain rfl rfl (AFn.enter [4, 5] Tryz.func85 rfl rfl rfl rfl rfl (by decide) ?_)
      repeat' first
        | (refine HCode.weaken hrest ?_; exact ⟨rfl, rfl, rfl, rfl, rfl, trivial⟩)
        | refine .seq ?_ | refine .rg ?_ | refine .rd ?_ | refine .block ?_ | refine .scope ?_ | refine .skip ?_ | refine .label ?_ | refine .exit ?_ | refine .ret ?_
        | refine .ct ?_ | refine .cf ?_ | refine .cy ?_ | refine .cn ?_ | (refine .cond rfl ?_ ?_ <;> intro hc)
        | refine A.nil_seq ?_ | refine .nl ?_ | refine .dd ?_ | refine .ys ?_ | refine .no ?_ | (refine A.guard rfl ?_ ?_ <;> intro hc)
        | refine .lb ?_ | refine .ln ?_ | refine .ls ?_ | refine .pv ?_ | refine .ix ?_ | refine .pt ?_ | refine .pf ?_ | refine .bx ?_ | refine .al ?_ | refine .st ?_ | refine .ad ?_ | refine .sb ?_ | refine .mf ?_ | refine .cl ?_ | refine .cw ?_ | refine .ck ?_
        | refine A.index_s rfl rfl rfl rfl rfl (by assumption) ?_ | refine A.conv rfl rfl rfl rfl (conv_u8 _) ?_ | refine A.band (n := 31) rfl rfl rfl rfl hbN (by decide) (and31 _) ?_ | fail
    · by_cases c3 : 224 ≤ s[i].toNat ∧ s[i].toNat < 240
      · have f1 : decide ((s[i].toNat : Int) ≥ 194) = true := decide_eq_true (by omega)
        have f2 : decide ((s[i].toNat : Int) < 224) = false := decide_eq_false (by omega)
        have f3 : decide ((s[i].toNat : Int) ≥ 224) = true := decide_eq_true (by omega)
        have f4 : decide ((s[i].toNat : Int) < 240) = true := decide_eq_true (by omega)
        have hrest := codeRest s i 3 2048 (s[i].toNat % 16) hi hs ⟨by decide, by decide⟩ (by omega)
        rw [code_3 hi c3]
        refine AFn.plain rfl rfl (AFn.enter [4, 5] Tryz.func85 rfl rfl rfl rfl rfl (by decide) ?_)
        repeat' first
          | (refine HCode.weaken hrest ?_; exact ⟨rfl, rfl, rfl, rfl, rfl, trivial⟩)
          | refine .seq ?_ | refine .rg ?_ | refine .rd ?_ | refine .block ?_ | refine .scope ?_ | refine .skip ?_ | refine .label ?_ | refine .exit ?_ | refine .ret ?_
          | refine .ct ?_ | refine .cf ?_ | refine .cy ?_ | refine .cn ?_ | (refine .cond rfl ?_ ?_ <;> intro hc)
          | refine A.nil_seq ?_ | refine .nl ?_ | refine .dd ?_ | refine .ys ?_ | refine .no ?_ | (refine A.guard rfl ?_ ?_ <;> intro hc)
          | refine .lb ?_ | refine .ln ?_ | refine .ls ?_ | refine .pv ?_ | refine .ix ?_ | refine .pt ?_ | refine .pf ?_ | refine .bx ?_ | refine .al ?_ | refine .st ?_ | refine .ad ?_ | refine .sb ?_ | refine .mf ?_ | refine .cl ?_ | refine .cw ?_ | refine .ck ?_
          | refine A.index_s rfl rfl rfl rfl rfl (by assumption) ?_ | refine A.conv rfl rfl rfl rfl (conv_u8 _) ?_ | refine A.band (n := 15) rfl rfl rfl rfl hbN (by decide) (and15 _) ?_ | fail
      · by_cases c4 : 240 ≤ s[i].toNat ∧ s[i].toNat < 245
        · have f1 : decide ((s[i].toNat : Int) ≥ 194) = true := decide_eq_true (by omega)
          have f2 : decide ((s[i].toNat : Int) < 224) = false := decide_eq_false (by omega)
          have f3 : decide ((s[i].toNat : Int) ≥ 224) = true := decide_eq_true (by omega)
          have f4 : decide ((s[i].toNat : Int) < 240) = false := decide_eq_false (by omega)
          have f5 : decide ((s[i].toNat : Int) ≥ 240) = true := decide_eq_true (by omega)
          have f6 : decide ((s[i].toNat : Int) < 245) = true := decide_eq_true (by omega)
          have hrest := codeRest s i 4 65536 (s[i].toNat % 8) hi hs ⟨by decide, by decide⟩ (by omega)
          rw [code_4 hi c4]
          refine AFn.plain rfl rfl (AFn.enter [4, 5] Tryz.func85 rfl rfl rfl rfl rfl (by decide) ?_)
          repeat' first
            | (refine HCode.weaken hrest ?_; exact ⟨rfl, rfl, rfl, rfl, rfl, trivial⟩)
            | refine .seq ?_ | refine .rg ?_ | refine .rd ?_ | refine .block ?_ | refine .scope ?_ | refine .skip ?_ | refine .label ?_ | refine .exit ?_ | refine .ret ?_
            | refine .ct ?_ | refine .cf ?_ | refine .cy ?_ | refine .cn ?_ | (refine .cond rfl ?_ ?_ <;> intro hc)
            | refine A.nil_seq ?_ | refine .nl ?_ | refine .dd ?_ | refine .ys ?_ | refine .no ?_ | (refine A.guard rfl ?_ ?_ <;> intro hc)
            | refine .lb ?_ | refine .ln ?_ | refine .ls ?_ | refine .pv ?_ | refine .ix ?_ | refine .pt ?_ | refine .pf ?_ | refine .bx ?_ | refine .al ?_ | refine .st ?_ | refine .ad ?_ | refine .sb ?_ | refine .mf ?_ | refine .cl ?_ | refine .cw ?_ | refine .ck ?_
            | refine A.index_s rfl rfl rfl rfl rfl (by assumption) ?_ | refine A.conv rfl rfl rfl rfl (conv_u8 _) ?_ | refine A.band (n := 7) rfl rfl rfl rfl hbN (by decide) (Go.Av.and7 _) ?_ | fail
        · rw [code_0 hi c1 c2 c3 c4]
          refine AFn.plain rfl rfl (AFn.enter [4, 5] Tryz.func85 rfl rfl rfl rfl rfl (by decide) ?_)
          by_cases c5 : s[i].toNat < 194
          · have f1 : decide ((s[i].toNat : Int) ≥ 194) = false := decide_eq_false (by omega)
            have f3 : decide ((s[i].toNat : Int) ≥ 224) = false := decide_eq_false (by omega)
            have f5 : decide ((s[i].toNat : Int) ≥ 240) = false := decide_eq_false (by omega)
            repeat' first
              | refine .seq ?_ | refine .rg ?_ | refine .rd ?_ | refine .block ?_ | refine .scope ?_ | refine .skip ?_ | refine .label ?_ | refine .exit ?_ | refine .ret ?_
              | refine .ct ?_ | refine .cf ?_ | refine .cy ?_ | refine .cn ?_ | (refine .cond rfl ?_ ?_ <;> intro hc)
              | refine A.nil_seq ?_ | refine .nl ?_ | refine .dd ?_ | refine .ys ?_ | refine .no ?_ | (refine A.guard rfl ?_ ?_ <;> intro hc)
              | refine .lb ?_ | refine .ln ?_ | refine .ls ?_ | refine .pv ?_ | refine .ix ?_ | refine .pt ?_ | refine .pf ?_ | refine .bx ?_ | refine .al ?_ | refine .st ?_ | refine .ad ?_ | refine .sb ?_ | refine .mf ?_ | refine .cl ?_ | refine .cw ?_ | refine .ck ?_
              | refine A.index_s rfl rfl rfl rfl rfl (by assumption) ?_ | refine A.conv rfl rfl rfl rfl (conv_u8 _) ?_ | fail
            exact Fin.two rfl rfl (Weak.refl _)
          · have f1 : decide ((s[i].toNat : Int) ≥ 194) = true := decide_eq_true (by omega)
            have f2 : decide ((s[i].toNat : Int) < 224) = false := decide_eq_false (by omega)
            have f3 : decide ((s[i].toNat : Int) ≥ 224) = true := decide_eq_true (by omega)
            have f4 : decide ((s[i].toNat : Int) < 240) = false := decide_eq_false (by omega)
            have f5 : decide ((s[i].toNat : Int) ≥ 240) = true := decide_eq_true (by omega)
            have f6 : decide ((s[i].toNat : Int) < 245) = false := decide_eq_false (by omega)
            repeat' first
              | refine .seq ?_ | refine .rg ?_ | refine .rd ?_ | refine .block ?_ | refine .scope ?_ | refine .skip ?_ | refine .label ?_ | refine .exit ?_ | refine .ret ?_
              | refine .ct ?_ | refine .cf ?_ | refine .cy ?_ | refine .cn ?_ | (refine .cond rfl ?_ ?_ <;> intro hc)
              | refine A.nil_seq ?_ | refine .nl ?_ | refine .dd ?_ | refine .ys ?_ | refine .no ?_ | (refine A.guard rfl ?_ ?_ <;> intro hc)
              | refine .lb ?_ | refine .ln ?_ | refine .ls ?_ | refine .pv ?_ | refine .ix ?_ | refine .pt ?_ | refine .pf ?_ | refine .bx ?_ | refine .al ?_ | refine .st ?_ | refine .ad ?_ | refine .sb ?_ | refine .mf ?_ | refine .cl ?_ | refine .cw ?_ | refine .ck ?_
              | refine A.index_s rfl rfl rfl rfl rfl (by assumption) ?_ | refine A.conv rfl rfl rfl rfl (conv_u8 _) ?_ | fail
            exact Fin.two rfl rfl (Weak.refl _)
end Go.Proofs.YtijlmchfepjjkaaGreatDoor
