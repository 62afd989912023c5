/-
  The package letters: Letter, Digit, Name. The package token: digits, whole, power, number, Number.
-/
import Derived.Test.YtijlmchfepjjkaaGreatDoorAvMap
import Derived.Test.YtijlmchfepjjkaaGreatDoorMVal
namespace Go.Proofs.YtijlmchfepjjkaaGreatDoor
open Go Go.Av
set_option maxRecDepth 100000
set_option maxHeartbeats 8000000
set_option linter.unusedVariables false
set_option linter.unusedSimpArgs false
attribute [local irreducible] HCode AOps PFn AFn Av.Step TStep

def digC (c : UInt8) : Bool := decide (48 ≤ c.toNat) && decide (c.toNat ≤ 57)
def letC (c : UInt8) : Bool := decide (97 ≤ c.toNat) && decide (c.toNat ≤ 122) || decide (65 ≤ c.toNat) && decide (c.toNat ≤ 90) || decide (c.toNat = 95)
theorem lDigit (c : UInt8) : PFn Tryz.prog 93 [.int .u8 (c.toNat : Int)] (.bool (digC c)) := by
  refine AFn.plain rfl rfl (AFn.enter [2] Tryz.func93 rfl rfl rfl rfl rfl (by decide) ?_)
  repeat' first
    | refine .seq ?_ | refine .rg ?_ | refine .rd ?_ | refine .block ?_ | refine .scope ?_ | refine .skip ?_ | refine .label ?_ | refine .exit ?_ | refine .ret ?_
    | refine .ct ?_ | refine .cf ?_ | refine .cy ?_ | refine .cn ?_ | (refine .cond rfl ?_ ?_ <;> intro hc)
    | refine A.nil_seq ?_ | refine .nl ?_ | refine .dd ?_ | refine .ys ?_ | refine .no ?_ | (refine A.guard rfl ?_ ?_ <;> intro hc)
    | refine .lb ?_ | refine .ln ?_ | refine .ls ?_ | refine .pv ?_ | refine .ix ?_ | refine .pt ?_ | refine .pf ?_ | refine .bx ?_ | refine .al ?_ | refine .st ?_ | refine .ad ?_ | refine .sb ?_ | refine .mf ?_ | refine .cl ?_ | refine .cw ?_ | refine .ck ?_ | fail
  all_goals
    refine Fin.ret1 rfl (Weak.eq (congrArg AV.bool ?_))
    unfold digC; rw [Bool.eq_iff_iff]; simp at *; omega
theorem lLetter (c : UInt8) : PFn Tryz.prog 92 [.int .u8 (c.toNat : Int)] (.bool (letC c)) := by
  refine AFn.plain rfl rfl (AFn.enter [2] Tryz.func92 rfl rfl rfl rfl rfl (by decide) ?_)
  repeat' first
    | refine .seq ?_ | refine .rg ?_ | refine .rd ?_ | refine .block ?_ | refine .scope ?_ | refine .skip ?_ | refine .label ?_ | refine .exit ?_ | refine .ret ?_
    | refine .ct ?_ | refine .cf ?_ | refine .cy ?_ | refine .cn ?_ | (refine .cond rfl ?_ ?_ <;> intro hc)
    | refine A.nil_seq ?_ | refine .nl ?_ | refine .dd ?_ | refine .ys ?_ | refine .no ?_ | (refine A.guard rfl ?_ ?_ <;> intro hc)
    | refine .lb ?_ | refine .ln ?_ | refine .ls ?_ | refine .pv ?_ | refine .ix ?_ | refine .pt ?_ | refine .pf ?_ | refine .bx ?_ | refine .al ?_ | refine .st ?_ | refine .ad ?_ | refine .sb ?_ | refine .mf ?_ | refine .cl ?_ | refine .cw ?_ | refine .ck ?_ | fail
  all_goals
    refine Fin.ret1 rfl (Weak.eq (congrArg AV.bool ?_))
    unfold letC; rw [Bool.eq_iff_iff]; simp at *; omega

theorem get_str {s : Str} {k : Nat} (h : k < s.length) : s[k]? = some s[k] := by simp [h]
/-- A name's letters; is it the first one? -/
def nmC : Bool → Str → Bool
  | _, [] => true
  | z, c :: r => (letC c || (!z && digC c)) && nmC false r
def nameB (s : Str) : Bool := nmC true s && decide (s ≠ [])
theorem nmC_drop {z : Bool} {s : Str} {k : Nat} (h : k < s.length) : nmC z (s.drop k) = ((letC s[k] || (!z && digC s[k])) && nmC false (s.drop (k + 1))) := by
  rw [List.drop_eq_getElem_cons h, nmC]
theorem lName (s : Str) (hs : s.length ≤ 9223372036854775806) : PFn Tryz.prog 73 [.str s] (.bool (nameB s)) := by
  refine AFn.plain rfl rfl (AFn.enter [2] Tryz.func73 rfl rfl rfl rfl rfl (by decide) ?_)
  repeat' first
    | refine .seq ?_ | refine .rg ?_ | refine .rd ?_ | refine .block ?_ | refine .scope ?_ | refine .skip ?_ | refine .label ?_ | refine .exit ?_ | refine .ret ?_
    | refine .ct ?_ | refine .cf ?_ | refine .cy ?_ | refine .cn ?_ | (refine .cond rfl ?_ ?_ <;> intro hc)
    | refine A.nil_seq ?_ | refine .nl ?_ | refine .dd ?_ | refine .ys ?_ | refine .no ?_ | (refine A.guard rfl ?_ ?_ <;> intro hc)
    | refine .lb ?_ | refine .ln ?_ | refine .ls ?_ | refine .pv ?_ | refine .ix ?_ | refine .pt ?_ | refine .pf ?_ | refine .bx ?_ | refine .al ?_ | refine .st ?_ | refine .ad ?_ | refine .sb ?_ | refine .mf ?_ | refine .cl ?_ | refine .cw ?_ | refine .ck ?_ | fail
  change HCode _ _ _ _ _ _ _
  refine HCode.loop (fun n σs σ => ∃ k : Nat, n = s.length - k ∧ k ≤ s.length ∧ nmC true s = nmC (k == 0) (s.drop k) ∧ σ = ⟨[], []⟩ ∧
    σs = [(6, .int .i64 k), (5, .int .i64 s.length), (0, .str s)])
    (s0 := [(6, .int .i64 (0 : Nat)), (5, .int .i64 s.length), (0, .str s)])
    ⟨rfl, rfl, rfl, trivial⟩ ⟨0, rfl, Nat.zero_le _, rfl, rfl, rfl⟩ ?_
  rintro n σs σ ⟨k, rfl, hk, hp, rfl, rfl⟩
  by_cases h1 : k < s.length
  · have d1 : decide ((k : Int) < (s.length : Int)) = true := by simp [h1]
    have x1 := get_str h1
    have hl := lLetter s[k]
    have hd := lDigit s[k]
    by_cases c1 : letC s[k] = true
    · have e1 : (!letC s[k]) = false := by rw [c1]; rfl
      repeat' first
        | refine .seq ?_ | refine .rg ?_ | refine .rd ?_ | refine .block ?_ | refine .scope ?_ | refine .skip ?_ | refine .label ?_ | refine .exit ?_ | refine .ret ?_
        | refine .ct ?_ | refine .cf ?_ | refine .cy ?_ | refine .cn ?_ | (refine .cond rfl ?_ ?_ <;> intro hc)
        | refine A.nil_seq ?_ | refine .nl ?_ | refine .dd ?_ | refine .ys ?_ | refine .no ?_ | (refine A.guard rfl ?_ ?_ <;> intro hc)
        | refine .lb ?_ | refine .ln ?_ | refine .ls ?_ | refine .pv ?_ | refine .ix ?_ | refine .pt ?_ | refine .pf ?_ | refine .bx ?_ | refine .al ?_ | refine .st ?_ | refine .ad ?_ | refine .sb ?_ | refine .mf ?_ | refine .cl ?_ | refine .cw ?_ | refine .ck ?_
        | refine A.index_s rfl rfl rfl rfl rfl (by assumption) ?_ | refine A.call rfl hl (WeakL.refl _) ?_ | refine A.call rfl hd (WeakL.refl _) ?_ | fail
      refine ⟨s.length - (k + 1), by omega, [(6, .int .i64 ((k + 1 : Nat) : Int)), (5, .int .i64 s.length), (0, .str s)], ⟨rfl, rfl, rfl, trivial⟩, by simp [belowS, AV.low], rfl, k + 1, rfl, by omega, ?_, rfl, rfl⟩
      rw [hp, nmC_drop h1, c1]; rfl
    · have e1 : (!letC s[k]) = true := by simpa using c1
      by_cases c2 : k = 0
      · have e2 : ((k : Int) == 0) = true := by simp [c2]
        repeat' first
          | refine .seq ?_ | refine .rg ?_ | refine .rd ?_ | refine .block ?_ | refine .scope ?_ | refine .skip ?_ | refine .label ?_ | refine .exit ?_ | refine .ret ?_
          | refine .ct ?_ | refine .cf ?_ | refine .cy ?_ | refine .cn ?_ | (refine .cond rfl ?_ ?_ <;> intro hc)
          | refine A.nil_seq ?_ | refine .nl ?_ | refine .dd ?_ | refine .ys ?_ | refine .no ?_ | (refine A.guard rfl ?_ ?_ <;> intro hc)
          | refine .lb ?_ | refine .ln ?_ | refine .ls ?_ | refine .pv ?_ | refine .ix ?_ | refine .pt ?_ | refine .pf ?_ | refine .bx ?_ | refine .al ?_ | refine .st ?_ | refine .ad ?_ | refine .sb ?_ | refine .mf ?_ | refine .cl ?_ | refine .cw ?_ | refine .ck ?_
          | refine A.index_s rfl rfl rfl rfl rfl (by assumption) ?_ | refine A.call rfl hl (WeakL.refl _) ?_ | refine A.call rfl hd (WeakL.refl _) ?_ | fail
        refine Fin.ret1 rfl (Weak.eq (congrArg AV.bool ?_))
        unfold nameB
        rw [hp, nmC_drop h1]; subst c2; simp [c1]
      · have e2 : ((k : Int) == 0) = false := by simp [c2]
        have e3 : (k == 0) = false := by simp [c2]
        by_cases c3 : digC s[k] = true
        · have e4 : (!digC s[k]) = false := by rw [c3]; rfl
          repeat' first
            | refine .seq ?_ | refine .rg ?_ | refine .rd ?_ | refine .block ?_ | refine .scope ?_ | refine .skip ?_ | refine .label ?_ | refine .exit ?_ | refine .ret ?_
            | refine .ct ?_ | refine .cf ?_ | refine .cy ?_ | refine .cn ?_ | (refine .cond rfl ?_ ?_ <;> intro hc)
            | refine A.nil_seq ?_ | refine .nl ?_ | refine .dd ?_ | refine .ys ?_ | refine .no ?_ | (refine A.guard rfl ?_ ?_ <;> intro hc)
            | refine .lb ?_ | refine .ln ?_ | refine .ls ?_ | refine .pv ?_ | refine .ix ?_ | refine .pt ?_ | refine .pf ?_ | refine .bx ?_ | refine .al ?_ | refine .st ?_ | refine .ad ?_ | refine .sb ?_ | refine .mf ?_ | refine .cl ?_ | refine .cw ?_ | refine .ck ?_
            | refine A.index_s rfl rfl rfl rfl rfl (by assumption) ?_ | refine A.call rfl hl (WeakL.refl _) ?_ | refine A.call rfl hd (WeakL.refl _) ?_ | fail
          refine ⟨s.length - (k + 1), by omega, [(6, .int .i64 ((k + 1 : Nat) : Int)), (5, .int .i64 s.length), (0, .str s)], ⟨rfl, rfl, rfl, trivial⟩, by simp [belowS, AV.low], rfl, k + 1, rfl, by omega, ?_, rfl, rfl⟩
          rw [hp, nmC_drop h1, e3, c3]; simp
        · have e4 : (!digC s[k]) = true := by simpa using c3
          repeat' first
            | refine .seq ?_ | refine .rg ?_ | refine .rd ?_ | refine .block ?_ | refine .scope ?_ | refine .skip ?_ | refine .label ?_ | refine .exit ?_ | refine .ret ?_
            | refine .ct ?_ | refine .cf ?_ | refine .cy ?_ | refine .cn ?_ | (refine .cond rfl ?_ ?_ <;> intro hc)
            | refine A.nil_seq ?_ | refine .nl ?_ | refine .dd ?_ | refine .ys ?_ | refine .no ?_ | (refine A.guard rfl ?_ ?_ <;> intro hc)
            | refine .lb ?_ | refine .ln ?_ | refine .ls ?_ | refine .pv ?_ | refine .ix ?_ | refine .pt ?_ | refine .pf ?_ | refine .bx ?_ | refine .al ?_ | refine .st ?_ | refine .ad ?_ | refine .sb ?_ | refine .mf ?_ | refine .cl ?_ | refine .cw ?_ | refine .ck ?_
            | refine A.index_s rfl rfl rfl rfl rfl (by assumption) ?_ | refine A.call rfl hl (WeakL.refl _) ?_ | refine A.call rfl hd (WeakL.refl _) ?_ | fail
          refine Fin.ret1 rfl (Weak.eq (congrArg AV.bool ?_))
          unfold nameB
          rw [hp, nmC_drop h1, e3]; simp [c1, c3]
  · have d1 : decide ((k : Int) < (s.length : Int)) = false := by simp; omega
    repeat' first
      | refine .seq ?_ | refine .rg ?_ | refine .rd ?_ | refine .block ?_ | refine .scope ?_ | refine .skip ?_ | refine .label ?_ | refine .exit ?_ | refine .ret ?_
      | refine .ct ?_ | refine .cf ?_ | refine .cy ?_ | refine .cn ?_ | (refine .cond rfl ?_ ?_ <;> intro hc)
      | refine A.nil_seq ?_ | refine .nl ?_ | refine .dd ?_ | refine .ys ?_ | refine .no ?_ | (refine A.guard rfl ?_ ?_ <;> intro hc)
      | refine .lb ?_ | refine .ln ?_ | refine .ls ?_ | refine .pv ?_ | refine .ix ?_ | refine .pt ?_ | refine .pf ?_ | refine .bx ?_ | refine .al ?_ | refine .st ?_ | refine .ad ?_ | refine .sb ?_ | refine .mf ?_ | refine .cl ?_ | refine .cw ?_ | refine .ck ?_ | fail
    refine Fin.ret1 rfl (Weak.eq (congrArg AV.bool ?_))
    unfold nameB
    rw [hp, List.drop_eq_nil_of_le (by omega), nmC]
    cases s <;> simp

/-- How many digits are ahead. -/
def digs : Str → Nat
  | [] => 0
  | c :: s => if digC c = true then digs s + 1 else 0
theorem digs_le : ∀ s : Str, digs s ≤ s.length
  | [] => Nat.le_refl _
  | c :: s => by
    have := digs_le s
    unfold digs; split <;> simp <;> omega
theorem digs_drop {s : Str} {k : Nat} (h : k < s.length) : digs (s.drop k) = if digC s[k] = true then digs (s.drop (k + 1)) + 1 else 0 := by
  rw [List.drop_eq_getElem_cons h, digs]
theorem tDigits (s : Str) (hs : s.length ≤ 9223372036854775806) : PFn Tryz.prog 124 [.str s] (.int .i64 (digs s)) := by
  refine AFn.plain rfl rfl (AFn.enter [2] Tryz.func124 rfl rfl rfl rfl rfl (by decide) ?_)
  repeat' first
    | refine .seq ?_ | refine .rg ?_ | refine .rd ?_ | refine .block ?_ | refine .scope ?_ | refine .skip ?_ | refine .label ?_ | refine .exit ?_ | refine .ret ?_
    | refine .ct ?_ | refine .cf ?_ | refine .cy ?_ | refine .cn ?_ | (refine .cond rfl ?_ ?_ <;> intro hc)
    | refine A.nil_seq ?_ | refine .nl ?_ | refine .dd ?_ | refine .ys ?_ | refine .no ?_ | (refine A.guard rfl ?_ ?_ <;> intro hc)
    | refine .lb ?_ | refine .ln ?_ | refine .ls ?_ | refine .pv ?_ | refine .ix ?_ | refine .pt ?_ | refine .pf ?_ | refine .bx ?_ | refine .al ?_ | refine .st ?_ | refine .ad ?_ | refine .sb ?_ | refine .mf ?_ | refine .cl ?_ | refine .cw ?_ | refine .ck ?_ | fail
  change HCode _ _ _ _ _ _ _
  refine HCode.loop (fun n σs σ => ∃ k : Nat, n = s.length - k ∧ k ≤ s.length ∧ digs s = k + digs (s.drop k) ∧ σ = ⟨[], []⟩ ∧ σs = [(3, .int .i64 k), (0, .str s)])
    (s0 := [(3, .int .i64 (0 : Nat)), (0, .str s)]) ⟨rfl, rfl, trivial⟩ ⟨0, rfl, Nat.zero_le _, by simp, rfl, rfl⟩ ?_
  rintro n σs σ ⟨k, rfl, hk, hp, rfl, rfl⟩
  by_cases h1 : k < s.length
  · have d1 : decide ((k : Int) < (s.length : Int)) = true := by simp [h1]
    have x1 := get_str h1
    have hd := lDigit s[k]
    by_cases c3 : digC s[k] = true
    · repeat' first
        | refine .seq ?_ | refine .rg ?_ | refine .rd ?_ | refine .block ?_ | refine .scope ?_ | refine .skip ?_ | refine .label ?_ | refine .exit ?_ | refine .ret ?_
        | refine .ct ?_ | refine .cf ?_ | refine .cy ?_ | refine .cn ?_ | (refine .cond rfl ?_ ?_ <;> intro hc)
        | refine A.nil_seq ?_ | refine .nl ?_ | refine .dd ?_ | refine .ys ?_ | refine .no ?_ | (refine A.guard rfl ?_ ?_ <;> intro hc)
        | refine .lb ?_ | refine .ln ?_ | refine .ls ?_ | refine .pv ?_ | refine .ix ?_ | refine .pt ?_ | refine .pf ?_ | refine .bx ?_ | refine .al ?_ | refine .st ?_ | refine .ad ?_ | refine .sb ?_ | refine .mf ?_ | refine .cl ?_ | refine .cw ?_ | refine .ck ?_
        | refine A.index_s rfl rfl rfl rfl rfl (by assumption) ?_ | refine A.call rfl hd (WeakL.refl _) ?_ | fail
      refine ⟨s.length - (k + 1), by omega, [(3, .int .i64 ((k + 1 : Nat) : Int)), (0, .str s)], ⟨rfl, rfl, trivial⟩, by simp [belowS, AV.low], rfl, k + 1, rfl, by omega, ?_, rfl, rfl⟩
      rw [hp, digs_drop h1, if_pos c3]; omega
    · have c4 : digC s[k] = false := by simpa using c3
      repeat' first
        | refine .seq ?_ | refine .rg ?_ | refine .rd ?_ | refine .block ?_ | refine .scope ?_ | refine .skip ?_ | refine .label ?_ | refine .exit ?_ | refine .ret ?_
        | refine .ct ?_ | refine .cf ?_ | refine .cy ?_ | refine .cn ?_ | (refine .cond rfl ?_ ?_ <;> intro hc)
        | refine A.nil_seq ?_ | refine .nl ?_ | refine .dd ?_ | refine .ys ?_ | refine .no ?_ | (refine A.guard rfl ?_ ?_ <;> intro hc)
        | refine .lb ?_ | refine .ln ?_ | refine .ls ?_ | refine .pv ?_ | refine .ix ?_ | refine .pt ?_ | refine .pf ?_ | refine .bx ?_ | refine .al ?_ | refine .st ?_ | refine .ad ?_ | refine .sb ?_ | refine .mf ?_ | refine .cl ?_ | refine .cw ?_ | refine .ck ?_
        | refine A.index_s rfl rfl rfl rfl rfl (by assumption) ?_ | refine A.call rfl hd (WeakL.refl _) ?_ | fail
      refine Fin.ret1 rfl (Weak.eq (congrArg (AV.int .i64) ?_))
      rw [hp, digs_drop h1, if_neg c3]; simp
  · have d1 : decide ((k : Int) < (s.length : Int)) = false := by simp; omega
    repeat' first
      | refine .seq ?_ | refine .rg ?_ | refine .rd ?_ | refine .block ?_ | refine .scope ?_ | refine .skip ?_ | refine .label ?_ | refine .exit ?_ | refine .ret ?_
      | refine .ct ?_ | refine .cf ?_ | refine .cy ?_ | refine .cn ?_ | (refine .cond rfl ?_ ?_ <;> intro hc)
      | refine A.nil_seq ?_ | refine .nl ?_ | refine .dd ?_ | refine .ys ?_ | refine .no ?_ | (refine A.guard rfl ?_ ?_ <;> intro hc)
      | refine .lb ?_ | refine .ln ?_ | refine .ls ?_ | refine .pv ?_ | refine .ix ?_ | refine .pt ?_ | refine .pf ?_ | refine .bx ?_ | refine .al ?_ | refine .st ?_ | refine .ad ?_ | refine .sb ?_ | refine .mf ?_ | refine .cl ?_ | refine .cw ?_ | refine .ck ?_ | fail
    refine Fin.ret1 rfl (Weak.eq (congrArg (AV.int .i64) ?_))
    rw [hp, List.drop_eq_nil_of_le (by omega), digs]; simp
end Go.Proofs.YtijlmchfepjjkaaGreatDoor
