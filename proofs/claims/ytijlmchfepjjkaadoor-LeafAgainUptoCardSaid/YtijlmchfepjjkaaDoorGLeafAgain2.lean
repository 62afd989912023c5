/-
  The package letters: Letter, Digit, Name. The package token: digits, whole, power, number, Number.
  The package token: whole, power, number, Number.
  The package token: number, Number. The package value: Whole, num, reserved.
  The package letters: Good.
-/
import Derived.Test.YtijlmchfepjjkaaDoorAvMap
import Derived.Test.YtijlmchfepjjkaaDoorGLeafAgain1
import Derived.Test.YtijlmchfepjjkaaDoorAvTab
import Derived.Test.YtijlmchfepjjkaaDoorShelf
namespace Go.Proofs.YtijlmchfepjjkaaDoor
open Go Go.Av
set_option maxRecDepth 100000
set_option maxHeartbeats 8000000
set_option linter.unusedVariables false
set_option linter.unusedSimpArgs false
attribute [local irreducible] HCode AOps PFn AFn Av.Step TStep

def digC (c : UInt8) : Bool := decide (48 ≤ c.toNat) && decide (c.toNat ≤ 57)
def letC (c : UInt8) : Bool := decide (97 ≤ c.toNat) && decide (c.toNat ≤ 122) || decide (65 ≤ c.toNat) && decide (c.toNat ≤ 90) || decide (c.toNat = 95)
theorem lDigit (c : UInt8) : PFn Tryd.prog 100 [.int .u8 (c.toNat : Int)] (.bool (digC c)) := by
  refine AFn.plain rfl rfl (AFn.enter [2] Tryd.func100 rfl rfl rfl rfl rfl (by decide) ?_)
  repeat' first
    | refine .seq ?_ | refine .rg ?_ | refine .rd ?_ | refine .block ?_ | refine .scope ?_ | refine .skip ?_ | refine .label ?_ | refine .exit ?_ | refine .ret ?_
    | refine .ct ?_ | refine .cf ?_ | refine .cy ?_ | refine .cn ?_ | (refine .cond rfl ?_ ?_ <;> intro hc)
    | refine A.nil_seq ?_ | refine .nl ?_ | refine .dd ?_ | refine .ys ?_ | refine .no ?_ | (refine A.guard rfl ?_ ?_ <;> intro hc)
    | refine .lb ?_ | refine .ln ?_ | refine .ls ?_ | refine .pv ?_ | refine .ix ?_ | refine .pt ?_ | refine .pf ?_ | refine .bx ?_ | refine .al ?_ | refine .st ?_ | refine .ad ?_ | refine .sb ?_ | refine .mf ?_ | refine .cl ?_ | refine .cw ?_ | refine .ck ?_ | fail
  all_goals
    refine Fin.ret1 rfl (Weak.eq (congrArg AV.bool ?_))
    unfold digC; rw [Bool.eq_iff_iff]; simp at *; omega
theorem lLetter (c : UInt8) : PFn Tryd.prog 99 [.int .u8 (c.toNat : Int)] (.bool (letC c)) := by
  refine AFn.plain rfl rfl (AFn.enter [2] Tryd.func99 rfl rfl rfl rfl rfl (by decide) ?_)
  repeat' first
    | refine .seq ?_ | refine .rg ?_ | refine .rd ?_ | refine .block ?_ | refine .scope ?_ | refine .skip ?_ | refine .label ?_ | refine .exit ?_ | refine .ret ?_
    | refine .ct ?_ | refine .cf ?_ | refine .cy ?_ | refine .cn ?_ | (refine .cond rfl ?_ ?_ <;> intro hc)
    | refine A.nil_seq ?_ | refine .nl ?_ | refine .dd ?_ | refine .ys ?_ | refine .no ?_ | (refine A.guard rfl ?_ ?_ <;> intro hc)
    | refine .lb ?_ | refine .ln ?_ | refine .ls ?_ | refine .pv ?_ | refine .ix ?_ | refine .pt ?_ | refine .pf ?_ | refine .bx ?_ | refine .al ?_ | refine .st ?_ | refine .ad ?_ | refine .sb ?_ | refine .mf ?_ | refine .cl ?_ | refine .cw ?_ | refine .ck ?_ | fail
  all_goals
    refine Fin.ret1 rfl (Weak.eq (congrArg AV.bool ?_))
    unfold letC; rw [Bool.eq_iff_iff]; simp at *; omega

theorem get_str {s : Str} {k : Nat} (h : k < s.length) : s[k]? = some s[k] := by simp [h]
/-- A name's letters; is it the first one? -/
def nmC : Bool → Str → Bool
  | _, [] => true
  | z, c :: r => (letC c || (!z && digC c)) && nmC false r
def nameB (s : Str) : Bool := nmC true s && decide (s ≠ [])
theorem nmC_drop {z : Bool} {s : Str} {k : Nat} (h : k < s.length) : nmC z (s.drop k) = ((letC s[k] || (!z && digC s[k])) && nmC false (s.drop (k + 1))) := by
  rw [List.drop_eq_getElem_cons h, nmC]
theorem lName (s : Str) (hs : s.length ≤ 9223372036854775806) : PFn Tryd.prog 57 [.str s] (.bool (nameB s)) := by
  refine AFn.plain rfl rfl (AFn.enter [2] Tryd.func57 rfl rfl rfl rfl rfl (by decide) ?_)
  repeat' first
    | refine .seq ?_ | refine .rg ?_ | refine .rd ?_ | refine .block ?_ | refine .scope ?_ | refine .skip ?_ | refine .label ?_ | refine .exit ?_ | refine .ret ?_
    | refine .ct ?_ | refine .cf ?_ | refine .cy ?_ | refine .cn ?_ | (refine .cond rfl ?_ ?_ <;> intro hc)
    | refine A.nil_seq ?_ | refine .nl ?_ | refine .dd ?_ | refine .ys ?_ | refine .no ?_ | (refine A.guard rfl ?_ ?_ <;> intro hc)
    | refine .lb ?_ | refine .ln ?_ | refine .ls ?_ | refine .pv ?_ | refine .ix ?_ | refine .pt ?_ | refine .pf ?_ | refine .bx ?_ | refine .al ?_ | refine .st ?_ | refine .ad ?_ | refine .sb ?_ | refine .mf ?_ | refine .cl ?_ | refine .cw ?_ | refine .ck ?_ | fail
  change HCode _ _ _ _ _ _ _
  refine HCode.loop (fun n σs σ => ∃ k : Nat, n = s.length - k ∧ k ≤ s.length ∧ nmC true s = nmC (k == 0) (s.drop k) ∧ σ = ⟨[], []⟩ ∧
    σs = [(6, .int .i64 k), (5, .int .i64 s.length), (0, .str s)])
    (s0 := [(6, .int .i64 (0 : Nat)), (5, .int .i64 s.length), (0, .str s)])
    ⟨rfl, rfl, rfl, trivial⟩ ⟨0, rfl, Nat.zero_le _, rfl, rfl, rfl⟩ ?_
  rintro n σs σ ⟨k, rfl, hk, hp, rfl, rfl⟩
  by_cases h1 : k < s.length
  · have d1 : decide ((k : Int) < (s.length : Int)) = true := by simp [h1]
    have x1 := get_str h1
    have hl := lLetter s[k]
    have hd := lDigit s[k]
    by_cases c1 : letC s[k] = true
    · have e1 : (!letC s[k]) = false := by rw [c1]; rfl
      repeat' first
        | refine .seq ?_ | refine .rg ?_ | refine .rd ?_ | refine .block ?_ | refine .scope ?_ | refine .skip ?_ | refine .label ?_ | refine .exit ?_ | refine .ret ?_
        | refine .ct ?_ | refine .cf ?_ | refine .cy ?_ | refine .cn ?_ | (refine .cond rfl ?_ ?_ <;> intro hc)
        | refine A.nil_seq ?_ | refine .nl ?_ | refine .dd ?_ | refine .ys ?_ | refine .no ?_ | (refine A.guard rfl ?_ ?_ <;> intro hc)
        | refine .lb ?_ | refine .ln ?_ | refine .ls ?_ | refine .pv ?_ | refine .ix ?_ | refine .pt ?_ | refine .pf ?_ | refine .bx ?_ | refine .al ?_ | refine .st ?_ | refine .ad ?_ | refine .sb ?_ | refine .mf ?_ | refine .cl ?_ | refine .cw ?_ | refine .ck ?_
        | refine A.index_s rfl rfl rfl rfl rfl (by assumption) ?_ | refine A.call rfl hl (WeakL.refl _) ?_ | refine A.call rfl hd (WeakL.refl _) ?_ | fail
      refine ⟨s.length - (k + 1), by omega, [(6, .int .i64 ((k + 1 : Nat) : Int)), (5, .int .i64 s.length), (0, .str s)], ⟨rfl, rfl, rfl, trivial⟩, by simp [belowS, AV.low], rfl, k + 1, rfl, by omega, ?_, rfl, rfl⟩
      rw [hp, nmC_drop h1, c1]; rfl
    · have e1 : (!letC s[k]) = true := by simpa using c1
      by_cases c2 : k = 0
      · have e2 : ((k : Int) == 0) = true := by simp [c2]
        repeat' first
          | refine .seq ?_ | refine .rg ?_ | refine .rd ?_ | refine .block ?_ | refine .scope ?_ | refine .skip ?_ | refine .label ?_ | refine .exit ?_ | refine .ret ?_
          | refine .ct ?_ | refine .cf ?_ | refine .cy ?_ | refine .cn ?_ | (refine .cond rfl ?_ ?_ <;> intro hc)
          | refine A.nil_seq ?_ | refine .nl ?_ | refine .dd ?_ | refine .ys ?_ | refine .no ?_ | (refine A.guard rfl ?_ ?_ <;> intro hc)
          | refine .lb ?_ | refine .ln ?_ | refine .ls ?_ | refine .pv ?_ | refine .ix ?_ | refine .pt ?_ | refine .pf ?_ | refine .bx ?_ | refine .al ?_ | refine .st ?_ | refine .ad ?_ | refine .sb ?_ | refine .mf ?_ | refine .cl ?_ | refine .cw ?_ | refine .ck ?_
          | refine A.index_s rfl rfl rfl rfl rfl (by assumption) ?_ | refine A.call rfl hl (WeakL.refl _) ?_ | refine A.call rfl hd (WeakL.refl _) ?_ | fail
        refine Fin.ret1 rfl (Weak.eq (congrArg AV.bool ?_))
        unfold nameB
        rw [hp, nmC_drop h1]; subst c2; simp [c1]
      · have e2 : ((k : Int) == 0) = false := by simp [c2]
        have e3 : (k == 0) = false := by simp [c2]
        by_cases c3 : digC s[k] = true
        · have e4 : (!digC s[k]) = false := by rw [c3]; rfl
          repeat' first
            | refine .seq ?_ | refine .rg ?_ | refine .rd ?_ | refine .block ?_ | refine .scope ?_ | refine .skip ?_ | refine .label ?_ | refine .exit ?_ | refine .ret ?_
            | refine .ct ?_ | refine .cf ?_ | refine .cy ?_ | refine .cn ?_ | (refine .cond rfl ?_ ?_ <;> intro hc)
            | refine A.nil_seq ?_ | refine .nl ?_ | refine .dd ?_ | refine .ys ?_ | refine .no ?_ | (refine A.guard rfl ?_ ?_ <;> intro hc)
            | refine .lb ?_ | refine .ln ?_ | refine .ls ?_ | refine .pv ?_ | refine .ix ?_ | refine .pt ?_ | refine .pf ?_ | refine .bx ?_ | refine .al ?_ | refine .st ?_ | refine .ad ?_ | refine .sb ?_ | refine .mf ?_ | refine .cl ?_ | refine .cw ?_ | refine .ck ?_
            | refine A.index_s rfl rfl rfl rfl rfl (by assumption) ?_ | refine A.call rfl hl (WeakL.refl _) ?_ | refine A.call rfl hd (WeakL.refl _) ?_ | fail
          refine ⟨s.length - (k + 1), by omega, [(6, .int .i64 ((k + 1 : Nat) : Int)), (5, .int .i64 s.length), (0, .str s)], ⟨rfl, rfl, rfl, trivial⟩, by simp [belowS, AV.low], rfl, k + 1, rfl, by omega, ?_, rfl, rfl⟩
          rw [hp, nmC_drop h1, e3, c3]; simp
        · have e4 : (!digC s[k]) = true := by simpa using c3
          repeat' first
            | refine .seq ?_ | refine .rg ?_ | refine .rd ?_ | refine .block ?_ | refine .scope ?_ | refine .skip ?_ | refine .label ?_ | refine .exit ?_ | refine .ret ?_
            | refine .ct ?_ | refine .cf ?_ | refine .cy ?_ | refine .cn ?_ | (refine .cond rfl ?_ ?_ <;> intro hc)
            | refine A.nil_seq ?_ | refine .nl ?_ | refine .dd ?_ | refine .ys ?_ | refine .no ?_ | (refine A.guard rfl ?_ ?_ <;> intro hc)
            | refine .lb ?_ | refine .ln ?_ | refine .ls ?_ | refine .pv ?_ | refine .ix ?_ | refine .pt ?_ | refine .pf ?_ | refine .bx ?_ | refine .al ?_ | refine .st ?_ | refine .ad ?_ | refine .sb ?_ | refine .mf ?_ | refine .cl ?_ | refine .cw ?_ | refine .ck ?_
            | refine A.index_s rfl rfl rfl rfl rfl (by assumption) ?_ | refine A.call rfl hl (WeakL.refl _) ?_ | refine A.call rfl hd (WeakL.refl _) ?_ | fail
          refine Fin.ret1 rfl (Weak.eq (congrArg AV.bool ?_))
          unfold nameB
          rw [hp, nmC_drop h1, e3]; simp [c1, c3]
  · have d1 : decide ((k : Int) < (s.length : Int)) = false := by simp; omega
    repeat' first
      | refine .seq ?_ | refine .rg ?_ | refine .rd ?_ | refine .block ?_ | refine .scope ?_ | refine .skip ?_ | refine .label ?_ | refine .exit ?_ | refine .ret ?_
      | refine .ct ?_ | refine .cf ?_ | refine .cy ?_ | refine .cn ?_ | (refine .cond rfl ?_ ?_ <;> intro hc)
      | refine A.nil_seq ?_ | refine .nl ?_ | refine .dd ?_ | refine .ys ?_ | refine .no ?_ | (refine A.guard rfl ?_ ?_ <;> intro hc)
      | refine .lb ?_ | refine .ln ?_ | refine .ls ?_ | refine .pv ?_ | refine .ix ?_ | refine .pt ?_ | refine .pf ?_ | refine .bx ?_ | refine .al ?_ | refine .st ?_ | refine .ad ?_ | refine .sb ?_ | refine .mf ?_ | refine .cl ?_ | refine .cw ?_ | refine .ck ?_ | fail
    refine Fin.ret1 rfl (Weak.eq (congrArg AV.bool ?_))
    unfold nameB
    rw [hp, List.drop_eq_nil_of_le (by omega), nmC]
    cases s <;> simp

/-- How many digits are ahead. -/
def digs : Str → Nat
  | [] => 0
  | c :: s => if digC c = true then digs s + 1 else 0
theorem digs_le : ∀ s : Str, digs s ≤ s.length
  | [] => Nat.le_refl _
  | c :: s => by
    have := digs_le s
    unfold digs; split <;> simp <;> omega
theorem digs_drop {s : Str} {k : Nat} (h : k < s.length) : digs (s.drop k) = if digC s[k] = true then digs (s.drop (k + 1)) + 1 else 0 := by
  rw [List.drop_eq_getElem_cons h, digs]
theorem tDigits (s : Str) (hs : s.length ≤ 9223372036854775806) : PFn Tryd.prog 167 [.str s] (.int .i64 (digs s)) := by
  refine AFn.plain rfl rfl (AFn.enter [2] Tryd.func167 rfl rfl rfl rfl rfl (by decide) ?_)
  repeat' first
    | refine .seq ?_ | refine .rg ?_ | refine .rd ?_ | refine .block ?_ | refine .scope ?_ | refine .skip ?_ | refine .label ?_ | refine .exit ?_ | refine .ret ?_
    | refine .ct ?_ | refine .cf ?_ | refine .cy ?_ | refine .cn ?_ | (refine .cond rfl ?_ ?_ <;> intro hc)
    | refine A.nil_seq ?_ | refine .nl ?_ | refine .dd ?_ | refine .ys ?_ | refine .no ?_ | (refine A.guard rfl ?_ ?_ <;> intro hc)
    | refine .lb ?_ | refine .ln ?_ | refine .ls ?_ | refine .pv ?_ | refine .ix ?_ | refine .pt ?_ | refine .pf ?_ | refine .bx ?_ | refine .al ?_ | refine .st ?_ | refine .ad ?_ | refine .sb ?_ | refine .mf ?_ | refine .cl ?_ | refine .cw ?_ | refine .ck ?_ | fail
  change HCode _ _ _ _ _ _ _
  refine HCode.loop (fun n σs σ => ∃ k : Nat, n = s.length - k ∧ k ≤ s.length ∧ digs s = k + digs (s.drop k) ∧ σ = ⟨[], []⟩ ∧ σs = [(3, .int .i64 k), (0, .str s)])
    (s0 := [(3, .int .i64 (0 : Nat)), (0, .str s)]) ⟨rfl, rfl, trivial⟩ ⟨0, rfl, Nat.zero_le _, by simp, rfl, rfl⟩ ?_
  rintro n σs σ ⟨k, rfl, hk, hp, rfl, rfl⟩
  by_cases h1 : k < s.length
  · have d1 : decide ((k : Int) < (s.length : Int)) = true := by simp [h1]
    have x1 := get_str h1
    have hd := lDigit s[k]
    by_cases c3 : digC s[k] = true
    · repeat' first
        | refine .seq ?_ | refine .rg ?_ | refine .rd ?_ | refine .block ?_ | refine .scope ?_ | refine .skip ?_ | refine .label ?_ | refine .exit ?_ | refine .ret ?_
        | refine .ct ?_ | refine .cf ?_ | refine .cy ?_ | refine .cn ?_ | (refine .cond rfl ?_ ?_ <;> intro hc)
        | refine A.nil_seq ?_ | refine .nl ?_ | refine .dd ?_ | refine .ys ?_ | refine .no ?_ | (refine A.guard rfl ?_ ?_ <;> intro hc)
        | refine .lb ?_ | refine .ln ?_ | refine .ls ?_ | refine .pv ?_ | refine .ix ?_ | refine .pt ?_ | refine .pf ?_ | refine .bx ?_ | refine .al ?_ | refine .st ?_ | refine .ad ?_ | refine .sb ?_ | refine .mf ?_ | refine .cl ?_ | refine .cw ?_ | refine .ck ?_
        | refine A.index_s rfl rfl rfl rfl rfl (by assumption) ?_ | refine A.call rfl hd (WeakL.refl _) ?_ | fail
      refine ⟨s.length - (k + 1), by omega, [(3, .int .i64 ((k + 1 : Nat) : Int)), (0, .str s)], ⟨rfl, rfl, trivial⟩, by simp [belowS, AV.low], rfl, k + 1, rfl, by omega, ?_, rfl, rfl⟩
      rw [hp, digs_drop h1, if_pos c3]; omega
    · have c4 : digC s[k] = false := by simpa using c3
      repeat' first
        | refine .seq ?_ | refine .rg ?_ | refine .rd ?_ | refine .block ?_ | refine .scope ?_ | refine .skip ?_ | refine .label ?_ | refine .exit ?_ | refine .ret ?_
        | refine .ct ?_ | refine .cf ?_ | refine .cy ?_ | refine .cn ?_ | (refine .cond rfl ?_ ?_ <;> intro hc)
        | refine A.nil_seq ?_ | refine .nl ?_ | refine .dd ?_ | refine .ys ?_ | refine .no ?_ | (refine A.guard rfl ?_ ?_ <;> intro hc)
        | refine .lb ?_ | refine .ln ?_ | refine .ls ?_ | refine .pv ?_ | refine .ix ?_ | refine .pt ?_ | refine .pf ?_ | refine .bx ?_ | refine .al ?_ | refine .st ?_ | refine .ad ?_ | refine .sb ?_ | refine .mf ?_ | refine .cl ?_ | refine .cw ?_ | refine .ck ?_
        | refine A.index_s rfl rfl rfl rfl rfl (by assumption) ?_ | refine A.call rfl hd (WeakL.refl _) ?_ | fail
      refine Fin.ret1 rfl (Weak.eq (congrArg (AV.int .i64) ?_))
      rw [hp, digs_drop h1, if_neg c3]; simp
  · have d1 : decide ((k : Int) < (s.length : Int)) = false := by simp; omega
    repeat' first
      | refine .seq ?_ | refine .rg ?_ | refine .rd ?_ | refine .block ?_ | refine .scope ?_ | refine .skip ?_ | refine .label ?_ | refine .exit ?_ | refine .ret ?_
      | refine .ct ?_ | refine .cf ?_ | refine .cy ?_ | refine .cn ?_ | (refine .cond rfl ?_ ?_ <;> intro hc)
      | refine A.nil_seq ?_ | refine .nl ?_ | refine .dd ?_ | refine .ys ?_ | refine .no ?_ | (refine A.guard rfl ?_ ?_ <;> intro hc)
      | refine .lb ?_ | refine .ln ?_ | refine .ls ?_ | refine .pv ?_ | refine .ix ?_ | refine .pt ?_ | refine .pf ?_ | refine .bx ?_ | refine .al ?_ | refine .st ?_ | refine .ad ?_ | refine .sb ?_ | refine .mf ?_ | refine .cl ?_ | refine .cw ?_ | refine .ck ?_ | fail
    refine Fin.ret1 rfl (Weak.eq (congrArg (AV.int .i64) ?_))
    rw [hp, List.drop_eq_nil_of_le (by omega), digs]; simp
end Go.Proofs.YtijlmchfepjjkaaDoor
namespace Go.Proofs.YtijlmchfepjjkaaDoor
open Go Go.Av
set_option maxRecDepth 100000
set_option maxHeartbeats 8000000
set_option linter.unusedVariables false
set_option linter.unusedSimpArgs false
attribute [local irreducible] HCode AOps PFn AFn Av.Step TStep

def pfx (p s : Str) : Bool := decide (p.length ≤ s.length) && (s.take p.length == p)
theorem slPrefix (s p : Str) : PFn Tryd.prog 171 [.str s, .str p] (.bool (pfx p s)) := by
  refine AFn.plain rfl rfl (AFn.enter [4] Tryd.func171 rfl rfl rfl rfl rfl (by decide) ?_)
  by_cases h1 : p.length ≤ s.length
  · have d1 : decide ((s.length : Int) ≥ (p.length : Int)) = true := by simp; omega
    have d2 : decide ((p.length : Int) ≤ (s.length : Int)) = true := by simp; omega
    repeat' first
      | refine .seq ?_ | refine .rg ?_ | refine .rd ?_ | refine .block ?_ | refine .scope ?_ | refine .skip ?_ | refine .label ?_ | refine .exit ?_ | refine .ret ?_
      | refine .ct ?_ | refine .cf ?_ | refine .cy ?_ | refine .cn ?_ | (refine .cond rfl ?_ ?_ <;> intro hc)
      | refine A.nil_seq ?_ | refine .nl ?_ | refine .dd ?_ | refine .ys ?_ | refine .no ?_ | (refine A.guard rfl ?_ ?_ <;> intro hc)
      | refine .lb ?_ | refine .ln ?_ | refine .ls ?_ | refine .pv ?_ | refine .ix ?_ | refine .pt ?_ | refine .pf ?_ | refine .bx ?_ | refine .al ?_ | refine .st ?_ | refine .ad ?_ | refine .sb ?_ | refine .mf ?_ | refine .cl ?_ | refine .cw ?_ | refine .ck ?_
      | refine A.slice_s 0 p.length rfl rfl rfl rfl rfl rfl rfl (by omega) (by omega) rfl ?_ | fail
    refine Fin.ret1 rfl (Weak.eq (congrArg AV.bool ?_))
    simp [pfx, h1]
  · have d1 : decide ((s.length : Int) ≥ (p.length : Int)) = false := by simp; omega
    have d2 : decide ((p.length : Int) ≤ (s.length : Int)) = false := by simp; omega
    repeat' first
      | refine .seq ?_ | refine .rg ?_ | refine .rd ?_ | refine .block ?_ | refine .scope ?_ | refine .skip ?_ | refine .label ?_ | refine .exit ?_ | refine .ret ?_
      | refine .ct ?_ | refine .cf ?_ | refine .cy ?_ | refine .cn ?_ | (refine .cond rfl ?_ ?_ <;> intro hc)
      | refine A.nil_seq ?_ | refine .nl ?_ | refine .dd ?_ | refine .ys ?_ | refine .no ?_ | (refine A.guard rfl ?_ ?_ <;> intro hc)
      | refine .lb ?_ | refine .ln ?_ | refine .ls ?_ | refine .pv ?_ | refine .ix ?_ | refine .pt ?_ | refine .pf ?_ | refine .bx ?_ | refine .al ?_ | refine .st ?_ | refine .ad ?_ | refine .sb ?_ | refine .mf ?_ | refine .cl ?_ | refine .cw ?_ | refine .ck ?_ | fail
    refine Fin.ret1 rfl (Weak.eq (congrArg AV.bool ?_))
    simp [pfx, h1]
theorem hasPrefix (s p : Str) : PFn Tryd.prog 166 [.str s, .str p] (.bool (pfx p s)) := by
  have h := slPrefix s p
  refine AFn.plain rfl rfl (AFn.enter [4] Tryd.func166 rfl rfl rfl rfl rfl (by decide) ?_)
  repeat' first
    | refine .seq ?_ | refine .rg ?_ | refine .rd ?_ | refine .block ?_ | refine .scope ?_ | refine .skip ?_ | refine .label ?_ | refine .exit ?_ | refine .ret ?_
    | refine .ct ?_ | refine .cf ?_ | refine .cy ?_ | refine .cn ?_ | (refine .cond rfl ?_ ?_ <;> intro hc)
    | refine A.nil_seq ?_ | refine .nl ?_ | refine .dd ?_ | refine .ys ?_ | refine .no ?_ | (refine A.guard rfl ?_ ?_ <;> intro hc)
    | refine .lb ?_ | refine .ln ?_ | refine .ls ?_ | refine .pv ?_ | refine .ix ?_ | refine .pt ?_ | refine .pf ?_ | refine .bx ?_ | refine .al ?_ | refine .st ?_ | refine .ad ?_ | refine .sb ?_ | refine .mf ?_ | refine .cl ?_ | refine .cw ?_ | refine .ck ?_
    | refine A.call rfl h (WeakL.refl _) ?_ | fail
  exact Fin.ret1 rfl (Weak.refl _)

/-- How many bytes of a whole number are ahead. -/
def wholeAt (s : Str) (n : Nat) : Nat := if digs (s.drop n) = 0 then 0 else if s[n]? = some 48 then n + 1 else n + digs (s.drop n)
def wholeN (s : Str) : Nat := if pfx [45] s = true then wholeAt s 1 else wholeAt s 0
theorem wholeAt_le {s : Str} {n : Nat} (h : n ≤ s.length) : wholeAt s n ≤ s.length := by
  have := digs_le (s.drop n)
  rw [List.length_drop] at this
  unfold wholeAt
  split
  · omega
  · split <;> omega
theorem pfx1 {c : UInt8} {s : Str} (h : pfx [c] s = true) : 1 ≤ s.length := by
  simp only [pfx, Bool.and_eq_true, decide_eq_true_eq] at h
  exact h.1
theorem wholeN_le (s : Str) : wholeN s ≤ s.length := by
  unfold wholeN
  split
  · exact wholeAt_le (pfx1 (by assumption))
  · exact wholeAt_le (Nat.zero_le _)
theorem tWhole (s : Str) (hs : s.length ≤ 9223372036854775806) : PFn Tryd.prog 165 [.str s] (.int .i64 (wholeN s)) := by
  refine AFn.plain rfl rfl (AFn.enter [2] Tryd.func165 rfl rfl rfl rfl rfl (by decide) ?_)
  have hp := hasPrefix s [45]
  by_cases c1 : pfx [45] s = true
  · have hn : 1 ≤ s.length := pfx1 c1
    have hd := tDigits (s.drop 1) (by rw [List.length_drop]; omega)
    have hle := digs_le (s.drop 1)
    rw [List.length_drop] at hle
    by_cases c2 : digs (s.drop 1) = 0
    · have e2 : ((digs (s.drop 1) : Int) == 0) = true := by rw [c2]; rfl
      repeat' first
        | refine .seq ?_ | refine .rg ?_ | refine .rd ?_ | refine .block ?_ | refine .scope ?_ | refine .skip ?_ | refine .label ?_ | refine .exit ?_ | refine .ret ?_
        | refine .ct ?_ | refine .cf ?_ | refine .cy ?_ | refine .cn ?_ | (refine .cond rfl ?_ ?_ <;> intro hc)
        | refine A.nil_seq ?_ | refine .nl ?_ | refine .dd ?_ | refine .ys ?_ | refine .no ?_ | (refine A.guard rfl ?_ ?_ <;> intro hc)
        | refine .lb ?_ | refine .ln ?_ | refine .ls ?_ | refine .pv ?_ | refine .ix ?_ | refine .pt ?_ | refine .pf ?_ | refine .bx ?_ | refine .al ?_ | refine .st ?_ | refine .ad ?_ | refine .sb ?_ | refine .mf ?_ | refine .cl ?_ | refine .cw ?_ | refine .ck ?_
        | refine A.call rfl hp (WeakL.refl _) ?_ | refine A.slice_s 1 s.length rfl rfl rfl rfl rfl rfl rfl (by omega) (by omega) (by rw [List.take_length]) ?_ | refine A.call rfl hd (WeakL.refl _) ?_ | fail
      refine Fin.ret1 rfl (Weak.eq (congrArg (AV.int .i64) ?_))
      rw [wholeN, if_pos c1, wholeAt, if_pos c2]; rfl
    · have e2 : ((digs (s.drop 1) : Int) == 0) = false := beq_eq_false_iff_ne.2 (by omega)
      have hlt : 1 < s.length := by omega
      have x1 := get_str hlt
      by_cases c3 : s[1] = 48
      · have e3 : ((s[1].toNat : Int) == 48) = true := by rw [c3]; rfl
        repeat' first
          | refine .seq ?_ | refine .rg ?_ | refine .rd ?_ | refine .block ?_ | refine .scope ?_ | refine .skip ?_ | refine .label ?_ | refine .exit ?_ | refine .ret ?_
          | refine .ct ?_ | refine .cf ?_ | refine .cy ?_ | refine .cn ?_ | (refine .cond rfl ?_ ?_ <;> intro hc)
          | refine A.nil_seq ?_ | refine .nl ?_ | refine .dd ?_ | refine .ys ?_ | refine .no ?_ | (refine A.guard rfl ?_ ?_ <;> intro hc)
          | refine .lb ?_ | refine .ln ?_ | refine .ls ?_ | refine .pv ?_ | refine .ix ?_ | refine .pt ?_ | refine .pf ?_ | refine .bx ?_ | refine .al ?_ | refine .st ?_ | refine .ad ?_ | refine .sb ?_ | refine .mf ?_ | refine .cl ?_ | refine .cw ?_ | refine .ck ?_
          | refine A.call rfl hp (WeakL.refl _) ?_ | refine A.slice_s 1 s.length rfl rfl rfl rfl rfl rfl rfl (by omega) (by omega) (by rw [List.take_length]) ?_ | refine A.call rfl hd (WeakL.refl _) ?_ | refine A.index_s (j := 1) rfl rfl rfl rfl rfl (by assumption) ?_ | fail
        refine Fin.ret1 rfl (Weak.eq (congrArg (AV.int .i64) ?_))
        rw [wholeN, if_pos c1, wholeAt, if_neg c2, x1, if_pos (congrArg some c3)]; rfl
      · have e3 : ((s[1].toNat : Int) == 48) = false := by
          have : s[1].toNat ≠ 48 := fun h => c3 (UInt8.toNat_inj.1 (h.trans rfl))
          simp; omega
        repeat' first
          | refine .seq ?_ | refine .rg ?_ | refine .rd ?_ | refine .block ?_ | refine .scope ?_ | refine .skip ?_ | refine .label ?_ | refine .exit ?_ | refine .ret ?_
          | refine .ct ?_ | refine .cf ?_ | refine .cy ?_ | refine .cn ?_ | (refine .cond rfl ?_ ?_ <;> intro hc)
          | refine A.nil_seq ?_ | refine .nl ?_ | refine .dd ?_ | refine .ys ?_ | refine .no ?_ | (refine A.guard rfl ?_ ?_ <;> intro hc)
          | refine .lb ?_ | refine .ln ?_ | refine .ls ?_ | refine .pv ?_ | refine .ix ?_ | refine .pt ?_ | refine .pf ?_ | refine .bx ?_ | refine .al ?_ | refine .st ?_ | refine .ad ?_ | refine .sb ?_ | refine .mf ?_ | refine .cl ?_ | refine .cw ?_ | refine .ck ?_
          | refine A.call rfl hp (WeakL.refl _) ?_ | refine A.slice_s 1 s.length rfl rfl rfl rfl rfl rfl rfl (by omega) (by omega) (by rw [List.take_length]) ?_ | refine A.call rfl hd (WeakL.refl _) ?_ | refine A.index_s (j := 1) rfl rfl rfl rfl rfl (by assumption) ?_ | fail
        refine Fin.ret1 rfl (Weak.eq (congrArg (AV.int .i64) ?_))
        rw [wholeN, if_pos c1, wholeAt, if_neg c2, x1, if_neg (fun h => c3 (Option.some.inj h))]; omega
  · have c1' : pfx [45] s = false := by simpa using c1
    have hd := tDigits s hs
    have hle := digs_le s
    by_cases c2 : digs s = 0
    · have e2 : ((digs s : Int) == 0) = true := by simp [c2]
      repeat' first
        | refine .seq ?_ | refine .rg ?_ | refine .rd ?_ | refine .block ?_ | refine .scope ?_ | refine .skip ?_ | refine .label ?_ | refine .exit ?_ | refine .ret ?_
        | refine .ct ?_ | refine .cf ?_ | refine .cy ?_ | refine .cn ?_ | (refine .cond rfl ?_ ?_ <;> intro hc)
        | refine A.nil_seq ?_ | refine .nl ?_ | refine .dd ?_ | refine .ys ?_ | refine .no ?_ | (refine A.guard rfl ?_ ?_ <;> intro hc)
        | refine .lb ?_ | refine .ln ?_ | refine .ls ?_ | refine .pv ?_ | refine .ix ?_ | refine .pt ?_ | refine .pf ?_ | refine .bx ?_ | refine .al ?_ | refine .st ?_ | refine .ad ?_ | refine .sb ?_ | refine .mf ?_ | refine .cl ?_ | refine .cw ?_ | refine .ck ?_
        | refine A.call rfl hp (WeakL.refl _) ?_ | refine A.slice_s 0 s.length rfl rfl rfl rfl rfl rfl rfl (by omega) (by omega) (by rw [List.take_length, List.drop_zero]) ?_ | refine A.call rfl hd (WeakL.refl _) ?_ | fail
      refine Fin.ret1 rfl (Weak.eq (congrArg (AV.int .i64) ?_))
      rw [wholeN, if_neg c1, wholeAt, List.drop_zero, if_pos c2]; rfl
    · have e2 : ((digs s : Int) == 0) = false := by simp [c2]
      have hlt : 0 < s.length := by omega
      have x1 := get_str hlt
      by_cases c3 : s[0] = 48
      · have e3 : ((s[0].toNat : Int) == 48) = true := by rw [c3]; rfl
        repeat' first
          | refine .seq ?_ | refine .rg ?_ | refine .rd ?_ | refine .block ?_ | refine .scope ?_ | refine .skip ?_ | refine .label ?_ | refine .exit ?_ | refine .ret ?_
          | refine .ct ?_ | refine .cf ?_ | refine .cy ?_ | refine .cn ?_ | (refine .cond rfl ?_ ?_ <;> intro hc)
          | refine A.nil_seq ?_ | refine .nl ?_ | refine .dd ?_ | refine .ys ?_ | refine .no ?_ | (refine A.guard rfl ?_ ?_ <;> intro hc)
          | refine .lb ?_ | refine .ln ?_ | refine .ls ?_ | refine .pv ?_ | refine .ix ?_ | refine .pt ?_ | refine .pf ?_ | refine .bx ?_ | refine .al ?_ | refine .st ?_ | refine .ad ?_ | refine .sb ?_ | refine .mf ?_ | refine .cl ?_ | refine .cw ?_ | refine .ck ?_
          | refine A.call rfl hp (WeakL.refl _) ?_ | refine A.slice_s 0 s.length rfl rfl rfl rfl rfl rfl rfl (by omega) (by omega) (by rw [List.take_length, List.drop_zero]) ?_ | refine A.call rfl hd (WeakL.refl _) ?_ | refine A.index_s (j := 0) rfl rfl rfl rfl rfl (by assumption) ?_ | fail
        refine Fin.ret1 rfl (Weak.eq (congrArg (AV.int .i64) ?_))
        rw [wholeN, if_neg c1, wholeAt, List.drop_zero, if_neg c2, x1, if_pos (congrArg some c3)]; rfl
      · have e3 : ((s[0].toNat : Int) == 48) = false := by
          have : s[0].toNat ≠ 48 := fun h => c3 (UInt8.toNat_inj.1 (h.trans rfl))
          simp; omega
        repeat' first
          | refine .seq ?_ | refine .rg ?_ | refine .rd ?_ | refine .block ?_ | refine .scope ?_ | refine .skip ?_ | refine .label ?_ | refine .exit ?_ | refine .ret ?_
          | refine .ct ?_ | refine .cf ?_ | refine .cy ?_ | refine .cn ?_ | (refine .cond rfl ?_ ?_ <;> intro hc)
          | refine A.nil_seq ?_ | refine .nl ?_ | refine .dd ?_ | refine .ys ?_ | refine .no ?_ | (refine A.guard rfl ?_ ?_ <;> intro hc)
          | refine .lb ?_ | refine .ln ?_ | refine .ls ?_ | refine .pv ?_ | refine .ix ?_ | refine .pt ?_ | refine .pf ?_ | refine .bx ?_ | refine .al ?_ | refine .st ?_ | refine .ad ?_ | refine .sb ?_ | refine .mf ?_ | refine .cl ?_ | refine .cw ?_ | refine .ck ?_
          | refine A.call rfl hp (WeakL.refl _) ?_ | refine A.slice_s 0 s.length rfl rfl rfl rfl rfl rfl rfl (by omega) (by omega) (by rw [List.take_length, List.drop_zero]) ?_ | refine A.call rfl hd (WeakL.refl _) ?_ | refine A.index_s (j := 0) rfl rfl rfl rfl rfl (by assumption) ?_ | fail
        refine Fin.ret1 rfl (Weak.eq (congrArg (AV.int .i64) ?_))
        rw [wholeN, if_neg c1, wholeAt, List.drop_zero, if_neg c2, x1, if_neg (fun h => c3 (Option.some.inj h))]; omega

def expAt (s : Str) (n : Nat) : Nat := if digs (s.drop n) = 0 then 0 else n + digs (s.drop n)
/-- How many bytes of an exponent are ahead. -/
def powN (s : Str) : Nat :=
  if (s.getD 0 0).toNat = 101 ∨ (s.getD 0 0).toNat = 69 then
    (if 1 < s.length ∧ ((s.getD 1 0).toNat = 43 ∨ (s.getD 1 0).toNat = 45) then expAt s 2 else expAt s 1)
  else 0
theorem expAt_le {s : Str} {n : Nat} (h : n ≤ s.length) : expAt s n ≤ s.length := by
  have := digs_le (s.drop n)
  rw [List.length_drop] at this
  unfold expAt
  split <;> omega
theorem powN_le (s : Str) : powN s ≤ s.length := by
  unfold powN
  split
  · have h : 1 ≤ s.length := by
      cases s with
      | nil => simp_all
      | cons c s => simp
    split
    · exact expAt_le (by omega)
    · exact expAt_le h
  · omega
theorem getD_of {s : Str} {k : Nat} (h : k < s.length) : s.getD k 0 = s[k] := by simp [List.getD, h]
theorem tPower (s : Str) (hs : s.length ≤ 9223372036854775806) : PFn Tryd.prog 168 [.str s] (.int .i64 (powN s)) := by
  refine AFn.plain rfl rfl (AFn.enter [2] Tryd.func168 rfl rfl rfl rfl rfl (by decide) ?_)
  by_cases h0 : s.length = 0
  · obtain rfl := List.eq_nil_of_length_eq_zero h0
    repeat' first
      | refine .seq ?_ | refine .rg ?_ | refine .rd ?_ | refine .block ?_ | refine .scope ?_ | refine .skip ?_ | refine .label ?_ | refine .exit ?_ | refine .ret ?_
      | refine .ct ?_ | refine .cf ?_ | refine .cy ?_ | refine .cn ?_ | (refine .cond rfl ?_ ?_ <;> intro hc)
      | refine A.nil_seq ?_ | refine .nl ?_ | refine .dd ?_ | refine .ys ?_ | refine .no ?_ | (refine A.guard rfl ?_ ?_ <;> intro hc)
      | refine .lb ?_ | refine .ln ?_ | refine .ls ?_ | refine .pv ?_ | refine .ix ?_ | refine .pt ?_ | refine .pf ?_ | refine .bx ?_ | refine .al ?_ | refine .st ?_ | refine .ad ?_ | refine .sb ?_ | refine .mf ?_ | refine .cl ?_ | refine .cw ?_ | refine .ck ?_ | fail
    refine Fin.ret1 rfl (Weak.eq (congrArg (AV.int .i64) ?_))
    rfl
  · have h0' : 0 < s.length := by omega
    have hne : (s == []) = false := by cases s <;> simp_all
    have x0 := get_str h0'
    have hd1 := tDigits (s.drop 1) (by rw [List.length_drop]; omega)
    have hle1 := digs_le (s.drop 1)
    rw [List.length_drop] at hle1
    have g0 := getD_of h0'
    by_cases h1 : 1 < s.length
    · have x1 := get_str h1
      have g1 := getD_of h1
      have d1 : decide ((s.length : Int) > 1) = true := by simp; omega
      have hd2 := tDigits (s.drop 2) (by rw [List.length_drop]; omega)
      have hle2 := digs_le (s.drop 2)
      rw [List.length_drop] at hle2
      repeat' first
        | refine .seq ?_ | refine .rg ?_ | refine .rd ?_ | refine .block ?_ | refine .scope ?_ | refine .skip ?_ | refine .label ?_ | refine .exit ?_ | refine .ret ?_
        | refine .ct ?_ | refine .cf ?_ | refine .cy ?_ | refine .cn ?_ | (refine .cond rfl ?_ ?_ <;> intro hc)
        | refine A.nil_seq ?_ | refine .nl ?_ | refine .dd ?_ | refine .ys ?_ | refine .no ?_ | (refine A.guard rfl ?_ ?_ <;> intro hc)
        | refine .lb ?_ | refine .ln ?_ | refine .ls ?_ | refine .pv ?_ | refine .ix ?_ | refine .pt ?_ | refine .pf ?_ | refine .bx ?_ | refine .al ?_ | refine .st ?_ | refine .ad ?_ | refine .sb ?_ | refine .mf ?_ | refine .cl ?_ | refine .cw ?_ | refine .ck ?_
        | refine A.index_s (j := 0) rfl rfl rfl rfl rfl (by assumption) ?_ | refine A.index_s (j := 1) rfl rfl rfl rfl rfl (by assumption) ?_ | refine A.slice_s 1 s.length rfl rfl rfl rfl rfl rfl rfl (by omega) (by omega) (by rw [List.take_length]) ?_ | refine A.slice_s 2 s.length rfl rfl rfl rfl rfl rfl rfl (by omega) (by omega) (by rw [List.take_length]) ?_ | refine A.call rfl hd1 (WeakL.refl _) ?_ | refine A.call rfl hd2 (WeakL.refl _) ?_ | fail
      all_goals
        refine Fin.ret1 rfl (Weak.eq (congrArg (AV.int .i64) ?_))
        unfold powN expAt
        rw [g0, g1]
        simp [-List.drop_one] at *
        (repeat' split) <;> omega
    · have d1 : decide ((s.length : Int) > 1) = false := by simp; omega
      repeat' first
        | refine .seq ?_ | refine .rg ?_ | refine .rd ?_ | refine .block ?_ | refine .scope ?_ | refine .skip ?_ | refine .label ?_ | refine .exit ?_ | refine .ret ?_
        | refine .ct ?_ | refine .cf ?_ | refine .cy ?_ | refine .cn ?_ | (refine .cond rfl ?_ ?_ <;> intro hc)
        | refine A.nil_seq ?_ | refine .nl ?_ | refine .dd ?_ | refine .ys ?_ | refine .no ?_ | (refine A.guard rfl ?_ ?_ <;> intro hc)
        | refine .lb ?_ | refine .ln ?_ | refine .ls ?_ | refine .pv ?_ | refine .ix ?_ | refine .pt ?_ | refine .pf ?_ | refine .bx ?_ | refine .al ?_ | refine .st ?_ | refine .ad ?_ | refine .sb ?_ | refine .mf ?_ | refine .cl ?_ | refine .cw ?_ | refine .ck ?_
        | refine A.index_s (j := 0) rfl rfl rfl rfl rfl (by assumption) ?_ | refine A.slice_s 1 s.length rfl rfl rfl rfl rfl rfl rfl (by omega) (by omega) (by rw [List.take_length]) ?_ | refine A.call rfl hd1 (WeakL.refl _) ?_ | fail
      all_goals
        refine Fin.ret1 rfl (Weak.eq (congrArg (AV.int .i64) ?_))
        unfold powN expAt
        rw [g0]
        simp [-List.drop_one] at *
        (repeat' split) <;> omega
end Go.Proofs.YtijlmchfepjjkaaDoor
namespace Go.Av
open Go
set_option linter.unusedSectionVars false
section
variable [Globals]
variable {P : Program} {all : Array Oper} {draw : Bool} {K : AX → Slots → St → Prop} {rest : List Oper} {acc : List Tag} {s : Slots} {σ : St} {ty : TypeId} {pos : String} {af : Array Edge}
theorem run_eq_nili {T : TypeId} {ms : Array (String × TypeId)} (h : P.underlying T = some (.interface ms)) {u : Value} {b : Bool} (hu : (u = .nilIface ∧ b = true) ∨ (∃ t v, u = .iface t v) ∧ b = false) (n : Nat) (w : World) : (Op.equalIn (n + 1) T u .nilIface).run P w = .ok b w := by
  rcases hu with ⟨rfl, rfl⟩ | ⟨⟨t, v, rfl⟩, rfl⟩ <;> simp [Op.equalIn, run_underlying h, Result.andThen]
theorem A.eqnil [Lay P] {d : Tmp} {T U : TypeId} {x : Operand} {v : AV} {b : Bool} {ti : TI} (hT : ty? P T = some ti) (hk : ti.kind = .iface) (hx : ev? s x = some v) (hv : (match v with | .nili => some true | .iface _ _ => some false | _ => none) = some b) (k : AOps P all draw K rest (.pure :: acc) ((d, .bool b) :: s) σ) :
    AOps P all draw K (⟨some d, .binOp .eql T x (.const .nilIface) U, ty, pos, af, none⟩ :: rest) acc s σ :=
  A.step rfl (tpure fun g w a ho => by
    have h1 := op1 hx (by simp [Op.operands]) ho
    obtain ⟨info, dd, z0, t1, t2, t3, t4, _⟩ := (ty_ok hT).ex
    have hd : ∃ ms, dd = .interface ms := by rw [hk] at t3; cases dd <;> first | exact ⟨_, rfl⟩ | cases t3
    obtain ⟨ms, rfl⟩ := hd
    have ec : a.eval (.const .nilIface) = .nilIface := rfl
    refine ⟨.bool b, ?_, rfl⟩
    cases v with
    | nili =>
      cases hv
      have e : a.eval x = .nilIface := h1
      have h3 : (Op.equal T .nilIface .nilIface).run P w = .ok true w := run_eq_nili t2 (.inl ⟨rfl, rfl⟩) 9999 w
      simp [execOp, e, ec, eqGuard, Go.binOp, h3, Result.andThen]
    | iface t v =>
      cases hv
      obtain ⟨u, e, _⟩ := h1
      have h3 : (Op.equal T (.iface t u) .nilIface).run P w = .ok false w := run_eq_nili t2 (.inr ⟨⟨t, u, rfl⟩, rfl⟩) 9999 w
      simp [execOp, e, ec, eqGuard, Go.binOp, h3, Result.andThen]
    | _ => cases hv) k
end
end Go.Av
namespace Go.Proofs.YtijlmchfepjjkaaDoor
open Go Go.Av
set_option maxRecDepth 100000
set_option maxHeartbeats 8000000
set_option linter.unusedVariables false
set_option linter.unusedSimpArgs false

theorem Fin.two {t1 t2 : Nat} {s : Slots} {v1 v2 r : AV} (h1 : lk? s t1 = some v1) (h2 : lk? s t2 = some v2) (hw : Weak (.tup [v1, v2]) r) : ∃ v', AEnd.ret (resAV s [t1, t2]) = .ret v' ∧ Weak v' r :=
  ⟨_, rfl, by rw [show resAV s [t1, t2] = .tup [v1, v2] by unfold resAV; simp only [List.map_cons, List.map_nil, lk_of h1, lk_of h2]]; exact hw⟩
/-- What strconv.ParseInt(s, 10, 64) tells. -/
def intOf (s : Str) : Int := match Lib.parseIntB 64 s with
  | .ok v => v
  | .range => Lib.intSat 64 s
  | _ => 0
def intIs (s : Str) : Bool := match Lib.parseIntB 64 s with
  | .ok _ => true
  | _ => false
def intErr (s : Str) : AV := match Lib.parseIntB 64 s with
  | .ok _ => .nili
  | _ => .iface 209 .undef
theorem scParse (s : Str) (hs : s.length ≤ 281474976710656) : PFn Tryd.prog 164 [.str s, .int .i64 10, .int .i64 64] (.tup [.int .i64 (intOf s), intErr s]) := by
  refine PFn.ofBelow ⟨_, Tryd.func164, rfl, rfl⟩ rfl (fun im w vals him hgl hl => ?_)
  obtain ⟨v, rest, e, hv, v2, rest2, e2, hv2, v3, rest3, e3, hv3, hr⟩ := hl
  have hv' : v = .string ⟨s.toArray⟩ := hv
  have hv2' : v2 = .int .i64 10 := hv2
  have hv3' : v3 = .int .i64 64 := hv3
  have hr' : rest3 = [] := hr
  subst hv' hv2' hv3' hr' e3 e2
  obtain rfl : vals = #[.string ⟨s.toArray⟩, .int .i64 10, .int .i64 64] := by cases vals; simp_all
  have hsz : (⟨s.toArray⟩ : ByteArray).size = s.length := by simp [ByteArray.size]
  have h5 := GlobOk.rep (g := ⟨[], [], im⟩) hgl (p := (5, .iface 218 .undef)) (.tail _ (.tail _ (.tail _ (.head _))))
  have h6 := GlobOk.rep (g := ⟨[], [], im⟩) hgl (p := (6, .iface 218 .undef)) (.tail _ (.tail _ (.tail _ (.tail _ (.head _)))))
  obtain ⟨u5, h5⟩ := err_cell h5
  obtain ⟨u6, h6⟩ := err_cell h6
  cases hp : Lib.parseIntB 64 s with
  | ok x =>
    refine (Tryd.strconv_ParseInt_10_at64_ok ⟨s.toArray⟩ (by omega) x hp w).mono ?_
    rintro e w' ⟨rfl, hb⟩
    refine ⟨⟨_, rfl, ?_⟩, ?_⟩
    · unfold intOf intErr; rw [hp]
      exact ⟨_, rfl, _, _, rfl, rfl, _, _, rfl, rfl, rfl⟩
    · rcases hb with rfl | ⟨t, rfl⟩
      · exact Go.RowKit.Below.refl _ _
      · exact Lib.bytesWorld_below _ _ _
  | range =>
    refine (Tryd.strconv_ParseInt_10_at64_range ⟨s.toArray⟩ (by omega) hp _ w h6 (.inr ⟨_, _, rfl⟩)).mono ?_
    rintro e w' ⟨N, rfl, _, _, hb⟩
    refine ⟨⟨_, rfl, ?_⟩, hb⟩
    unfold intOf intErr; rw [hp]
    exact ⟨_, rfl, _, _, rfl, rfl, _, _, rfl, ⟨_, rfl, trivial⟩, rfl⟩
  | _ =>
    refine (Tryd.strconv_ParseInt_10_at64_syn ⟨s.toArray⟩ (by omega) (by simp only [hp]) _ w h5 (.inr ⟨_, _, rfl⟩)).mono ?_
    rintro e w' ⟨N, rfl, _, _, hb⟩
    refine ⟨⟨_, rfl, ?_⟩, hb⟩
    unfold intOf intErr; rw [hp]
    exact ⟨_, rfl, _, _, rfl, rfl, _, _, rfl, ⟨_, rfl, trivial⟩, rfl⟩
attribute [local irreducible] HCode AOps PFn AFn Av.Step TStep

def dotN (s : Str) (n : Nat) : Nat × Int := if pfx [46] (s.drop n) = true then (if digs (s.drop (n + 1)) = 0 then (n, 3) else (n + 1 + digs (s.drop (n + 1)), 4)) else (n, 3)
/-- How many bytes of a number are ahead, and its kind. -/
def numK (s : Str) : Nat × Int := if wholeN s = 0 then (0, 0) else if powN (s.drop (dotN s (wholeN s)).1) = 0 then dotN s (wholeN s) else ((dotN s (wholeN s)).1 + powN (s.drop (dotN s (wholeN s)).1), 4)
theorem tnumber (s : Str) (hs : s.length ≤ 4611686018427387904) : PFn Tryd.prog 163 [.str s] (.tup [.int .i64 (numK s).1, .int .i64 (numK s).2]) := by
  refine AFn.plain rfl rfl (AFn.enter [2, 3] Tryd.func163 rfl rfl rfl rfl rfl (by decide) ?_)
  have hw := tWhole s (by omega)
  have hle := wholeN_le s
  unfold numK
  by_cases c0 : wholeN s = 0
  · have e0 : ((wholeN s : Int) == 0) = true := by rw [c0]; rfl
    repeat' first
      | refine .seq ?_ | refine .rg ?_ | refine .rd ?_ | refine .block ?_ | refine .scope ?_ | refine .skip ?_ | refine .label ?_ | refine .exit ?_ | refine .ret ?_
      | refine .ct ?_ | refine .cf ?_ | refine .cy ?_ | refine .cn ?_ | (refine .cond rfl ?_ ?_ <;> intro hc)
      | refine A.nil_seq ?_ | refine .nl ?_ | refine .dd ?_ | refine .ys ?_ | refine .no ?_ | (refine A.guard rfl ?_ ?_ <;> intro hc)
      | refine .lb ?_ | refine .ln ?_ | refine .ls ?_ | refine .pv ?_ | refine .ix ?_ | refine .pt ?_ | refine .pf ?_ | refine .bx ?_ | refine .al ?_ | refine .st ?_ | refine .ad ?_ | refine .sb ?_ | refine .mf ?_ | refine .cl ?_ | refine .cw ?_ | refine .ck ?_
      | refine A.call rfl hw (WeakL.refl _) ?_ | fail
    refine Fin.two rfl rfl (Weak.eq ?_)
    rw [if_pos c0]; rfl
  · have e0 : ((wholeN s : Int) == 0) = false := beq_eq_false_iff_ne.2 (by omega)
    have hp := hasPrefix (s.drop (wholeN s)) [46]
    rw [if_neg c0]
    unfold dotN
    by_cases c1 : pfx [46] (s.drop (wholeN s)) = true
    · rw [if_pos c1]
      have hlt := pfx1 c1
      rw [List.length_drop] at hlt
      have hd := tDigits (s.drop (wholeN s + 1)) (by rw [List.length_drop]; omega)
      have hdl := digs_le (s.drop (wholeN s + 1))
      rw [List.length_drop] at hdl
      by_cases c2 : digs (s.drop (wholeN s + 1)) = 0
      · rw [if_pos c2]
        have e2 : decide ((digs (s.drop (wholeN s + 1)) : Int) > 0) = false := by simp only [decide_eq_false_iff_not]; omega
        have hq := tPower (s.drop (wholeN s)) (by rw [List.length_drop]; omega)
        have hql := powN_le (s.drop (wholeN s))
        rw [List.length_drop] at hql
        by_cases c3 : powN (s.drop (wholeN s)) = 0
        · have e3 : decide ((powN (s.drop (wholeN s)) : Int) > 0) = false := by simp only [decide_eq_false_iff_not]; omega
          repeat' first
            | refine .seq ?_ | refine .rg ?_ | refine .rd ?_ | refine .block ?_ | refine .scope ?_ | refine .skip ?_ | refine .label ?_ | refine .exit ?_ | refine .ret ?_
            | refine .ct ?_ | refine .cf ?_ | refine .cy ?_ | refine .cn ?_ | (refine .cond rfl ?_ ?_ <;> intro hc)
            | refine A.nil_seq ?_ | refine .nl ?_ | refine .dd ?_ | refine .ys ?_ | refine .no ?_ | (refine A.guard rfl ?_ ?_ <;> intro hc)
            | refine .lb ?_ | refine .ln ?_ | refine .ls ?_ | refine .pv ?_ | refine .ix ?_ | refine .pt ?_ | refine .pf ?_ | refine .bx ?_ | refine .al ?_ | refine .st ?_ | refine .ad ?_ | refine .sb ?_ | refine .mf ?_ | refine .cl ?_ | refine .cw ?_ | refine .ck ?_
            | refine A.call rfl hw (WeakL.refl _) ?_ | refine A.slice_s (wholeN s) s.length rfl rfl rfl rfl rfl rfl rfl (by omega) (by omega) (by rw [List.take_length]) ?_ | refine A.slice_s (wholeN s + 1) s.length rfl rfl rfl rfl rfl rfl rfl (by omega) (by omega) (by rw [List.take_length]) ?_ | refine A.call rfl hp (WeakL.refl _) ?_ | refine A.call rfl hd (WeakL.refl _) ?_ | refine A.call rfl hq (WeakL.refl _) ?_ | fail
          refine Fin.two rfl rfl (Weak.eq ?_)
          rw [if_pos c3]
        · have e3 : decide ((powN (s.drop (wholeN s)) : Int) > 0) = true := by simp only [decide_eq_true_eq]; omega
          repeat' first
            | refine .seq ?_ | refine .rg ?_ | refine .rd ?_ | refine .block ?_ | refine .scope ?_ | refine .skip ?_ | refine .label ?_ | refine .exit ?_ | refine .ret ?_
            | refine .ct ?_ | refine .cf ?_ | refine .cy ?_ | refine .cn ?_ | (refine .cond rfl ?_ ?_ <;> intro hc)
            | refine A.nil_seq ?_ | refine .nl ?_ | refine .dd ?_ | refine .ys ?_ | refine .no ?_ | (refine A.guard rfl ?_ ?_ <;> intro hc)
            | refine .lb ?_ | refine .ln ?_ | refine .ls ?_ | refine .pv ?_ | refine .ix ?_ | refine .pt ?_ | refine .pf ?_ | refine .bx ?_ | refine .al ?_ | refine .st ?_ | refine .ad ?_ | refine .sb ?_ | refine .mf ?_ | refine .cl ?_ | refine .cw ?_ | refine .ck ?_
            | refine A.call rfl hw (WeakL.refl _) ?_ | refine A.slice_s (wholeN s) s.length rfl rfl rfl rfl rfl rfl rfl (by omega) (by omega) (by rw [List.take_length]) ?_ | refine A.slice_s (wholeN s + 1) s.length rfl rfl rfl rfl rfl rfl rfl (by omega) (by omega) (by rw [List.take_length]) ?_ | refine A.call rfl hp (WeakL.refl _) ?_ | refine A.call rfl hd (WeakL.refl _) ?_ | refine A.call rfl hq (WeakL.refl _) ?_ | fail
          refine Fin.two rfl rfl (Weak.eq ?_)
          rw [if_neg c3]; rfl
      · rw [if_neg c2]
        have e2 : decide ((digs (s.drop (wholeN s + 1)) : Int) > 0) = true := by simp only [decide_eq_true_eq]; omega
        have hq := tPower (s.drop (wholeN s + 1 + digs (s.drop (wholeN s + 1)))) (by rw [List.length_drop]; omega)
        have hql := powN_le (s.drop (wholeN s + 1 + digs (s.drop (wholeN s + 1))))
        rw [List.length_drop] at hql
        by_cases c3 : powN (s.drop (wholeN s + 1 + digs (s.drop (wholeN s + 1)))) = 0
        · have e3 : decide ((powN (s.drop (wholeN s + 1 + digs (s.drop (wholeN s + 1)))) : Int) > 0) = false := by simp only [decide_eq_false_iff_not]; omega
          repeat' first
            | refine .seq ?_ | refine .rg ?_ | refine .rd ?_ | refine .block ?_ | refine .scope ?_ | refine .skip ?_ | refine .label ?_ | refine .exit ?_ | refine .ret ?_
            | refine .ct ?_ | refine .cf ?_ | refine .cy ?_ | refine .cn ?_ | (refine .cond rfl ?_ ?_ <;> intro hc)
            | refine A.nil_seq ?_ | refine .nl ?_ | refine .dd ?_ | refine .ys ?_ | refine .no ?_ | (refine A.guard rfl ?_ ?_ <;> intro hc)
            | refine .lb ?_ | refine .ln ?_ | refine .ls ?_ | refine .pv ?_ | refine .ix ?_ | refine .pt ?_ | refine .pf ?_ | refine .bx ?_ | refine .al ?_ | refine .st ?_ | refine .ad ?_ | refine .sb ?_ | refine .mf ?_ | refine .cl ?_ | refine .cw ?_ | refine .ck ?_
            | refine A.call rfl hw (WeakL.refl _) ?_ | refine A.slice_s (wholeN s) s.length rfl rfl rfl rfl rfl rfl rfl (by omega) (by omega) (by rw [List.take_length]) ?_ | refine A.slice_s (wholeN s + 1) s.length rfl rfl rfl rfl rfl rfl rfl (by omega) (by omega) (by rw [List.take_length]) ?_ | refine A.slice_s (wholeN s + 1 + digs (s.drop (wholeN s + 1))) s.length rfl rfl rfl rfl rfl rfl rfl (by omega) (by omega) (by rw [List.take_length]) ?_ | refine A.call rfl hp (WeakL.refl _) ?_ | refine A.call rfl hd (WeakL.refl _) ?_ | refine A.call rfl hq (WeakL.refl _) ?_ | fail
          refine Fin.two rfl rfl (Weak.eq ?_)
          rw [if_pos c3]; rfl
        · have e3 : decide ((powN (s.drop (wholeN s + 1 + digs (s.drop (wholeN s + 1)))) : Int) > 0) = true := by simp only [decide_eq_true_eq]; omega
          repeat' first
            | refine .seq ?_ | refine .rg ?_ | refine .rd ?_ | refine .block ?_ | refine .scope ?_ | refine .skip ?_ | refine .label ?_ | refine .exit ?_ | refine .ret ?_
            | refine .ct ?_ | refine .cf ?_ | refine .cy ?_ | refine .cn ?_ | (refine .cond rfl ?_ ?_ <;> intro hc)
            | refine A.nil_seq ?_ | refine .nl ?_ | refine .dd ?_ | refine .ys ?_ | refine .no ?_ | (refine A.guard rfl ?_ ?_ <;> intro hc)
            | refine .lb ?_ | refine .ln ?_ | refine .ls ?_ | refine .pv ?_ | refine .ix ?_ | refine .pt ?_ | refine .pf ?_ | refine .bx ?_ | refine .al ?_ | refine .st ?_ | refine .ad ?_ | refine .sb ?_ | refine .mf ?_ | refine .cl ?_ | refine .cw ?_ | refine .ck ?_
            | refine A.call rfl hw (WeakL.refl _) ?_ | refine A.slice_s (wholeN s) s.length rfl rfl rfl rfl rfl rfl rfl (by omega) (by omega) (by rw [List.take_length]) ?_ | refine A.slice_s (wholeN s + 1) s.length rfl rfl rfl rfl rfl rfl rfl (by omega) (by omega) (by rw [List.take_length]) ?_ | refine A.slice_s (wholeN s + 1 + digs (s.drop (wholeN s + 1))) s.length rfl rfl rfl rfl rfl rfl rfl (by omega) (by omega) (by rw [List.take_length]) ?_ | refine A.call rfl hp (WeakL.refl _) ?_ | refine A.call rfl hd (WeakL.refl _) ?_ | refine A.call rfl hq (WeakL.refl _) ?_ | fail
          refine Fin.two rfl rfl (Weak.eq ?_)
          rw [if_neg c3]; rfl
    · rw [if_neg c1]
      have c1' : pfx [46] (s.drop (wholeN s)) = false := by simpa using c1
      have hq := tPower (s.drop (wholeN s)) (by rw [List.length_drop]; omega)
      have hql := powN_le (s.drop (wholeN s))
      rw [List.length_drop] at hql
      by_cases c3 : powN (s.drop (wholeN s)) = 0
      · have e3 : decide ((powN (s.drop (wholeN s)) : Int) > 0) = false := by simp only [decide_eq_false_iff_not]; omega
        repeat' first
          | refine .seq ?_ | refine .rg ?_ | refine .rd ?_ | refine .block ?_ | refine .scope ?_ | refine .skip ?_ | refine .label ?_ | refine .exit ?_ | refine .ret ?_
          | refine .ct ?_ | refine .cf ?_ | refine .cy ?_ | refine .cn ?_ | (refine .cond rfl ?_ ?_ <;> intro hc)
          | refine A.nil_seq ?_ | refine .nl ?_ | refine .dd ?_ | refine .ys ?_ | refine .no ?_ | (refine A.guard rfl ?_ ?_ <;> intro hc)
          | refine .lb ?_ | refine .ln ?_ | refine .ls ?_ | refine .pv ?_ | refine .ix ?_ | refine .pt ?_ | refine .pf ?_ | refine .bx ?_ | refine .al ?_ | refine .st ?_ | refine .ad ?_ | refine .sb ?_ | refine .mf ?_ | refine .cl ?_ | refine .cw ?_ | refine .ck ?_
          | refine A.call rfl hw (WeakL.refl _) ?_ | refine A.slice_s (wholeN s) s.length rfl rfl rfl rfl rfl rfl rfl (by omega) (by omega) (by rw [List.take_length]) ?_ | refine A.call rfl hp (WeakL.refl _) ?_ | refine A.call rfl hq (WeakL.refl _) ?_ | fail
        refine Fin.two rfl rfl (Weak.eq ?_)
        rw [if_pos c3]
      · have e3 : decide ((powN (s.drop (wholeN s)) : Int) > 0) = true := by simp only [decide_eq_true_eq]; omega
        repeat' first
          | refine .seq ?_ | refine .rg ?_ | refine .rd ?_ | refine .block ?_ | refine .scope ?_ | refine .skip ?_ | refine .label ?_ | refine .exit ?_ | refine .ret ?_
          | refine .ct ?_ | refine .cf ?_ | refine .cy ?_ | refine .cn ?_ | (refine .cond rfl ?_ ?_ <;> intro hc)
          | refine A.nil_seq ?_ | refine .nl ?_ | refine .dd ?_ | refine .ys ?_ | refine .no ?_ | (refine A.guard rfl ?_ ?_ <;> intro hc)
          | refine .lb ?_ | refine .ln ?_ | refine .ls ?_ | refine .pv ?_ | refine .ix ?_ | refine .pt ?_ | refine .pf ?_ | refine .bx ?_ | refine .al ?_ | refine .st ?_ | refine .ad ?_ | refine .sb ?_ | refine .mf ?_ | refine .cl ?_ | refine .cw ?_ | refine .ck ?_
          | refine A.call rfl hw (WeakL.refl _) ?_ | refine A.slice_s (wholeN s) s.length rfl rfl rfl rfl rfl rfl rfl (by omega) (by omega) (by rw [List.take_length]) ?_ | refine A.call rfl hp (WeakL.refl _) ?_ | refine A.call rfl hq (WeakL.refl _) ?_ | fail
        refine Fin.two rfl rfl (Weak.eq ?_)
        rw [if_neg c3]; rfl
/-- Which number a text is. -/
def numOf (s : Str) : Int := if (numK s).1 = s.length then (numK s).2 else 0
theorem tNumber (s : Str) (hs : s.length ≤ 4611686018427387904) : PFn Tryd.prog 152 [.str s] (.int .i64 (numOf s)) := by
  refine AFn.plain rfl rfl (AFn.enter [2] Tryd.func152 rfl rfl rfl rfl rfl (by decide) ?_)
  have hn := tnumber s hs
  unfold numOf
  by_cases c : (numK s).1 = s.length
  · have e : (((numK s).1 : Int) != (s.length : Int)) = false := by rw [c]; simp
    repeat' first
      | refine .seq ?_ | refine .rg ?_ | refine .rd ?_ | refine .block ?_ | refine .scope ?_ | refine .skip ?_ | refine .label ?_ | refine .exit ?_ | refine .ret ?_
      | refine .ct ?_ | refine .cf ?_ | refine .cy ?_ | refine .cn ?_ | (refine .cond rfl ?_ ?_ <;> intro hc)
      | refine A.nil_seq ?_ | refine .nl ?_ | refine .dd ?_ | refine .ys ?_ | refine .no ?_ | (refine A.guard rfl ?_ ?_ <;> intro hc)
      | refine .lb ?_ | refine .ln ?_ | refine .ls ?_ | refine .pv ?_ | refine .ix ?_ | refine .pt ?_ | refine .pf ?_ | refine .bx ?_ | refine .al ?_ | refine .st ?_ | refine .ad ?_ | refine .sb ?_ | refine .mf ?_ | refine .cl ?_ | refine .cw ?_ | refine .ck ?_
      | refine A.call rfl hn (WeakL.refl _) ?_ | fail
    refine Fin.ret1 rfl (Weak.eq ?_)
    rw [if_pos c]
  · have e : (((numK s).1 : Int) != (s.length : Int)) = true := by simp; omega
    repeat' first
      | refine .seq ?_ | refine .rg ?_ | refine .rd ?_ | refine .block ?_ | refine .scope ?_ | refine .skip ?_ | refine .label ?_ | refine .exit ?_ | refine .ret ?_
      | refine .ct ?_ | refine .cf ?_ | refine .cy ?_ | refine .cn ?_ | (refine .cond rfl ?_ ?_ <;> intro hc)
      | refine A.nil_seq ?_ | refine .nl ?_ | refine .dd ?_ | refine .ys ?_ | refine .no ?_ | (refine A.guard rfl ?_ ?_ <;> intro hc)
      | refine .lb ?_ | refine .ln ?_ | refine .ls ?_ | refine .pv ?_ | refine .ix ?_ | refine .pt ?_ | refine .pf ?_ | refine .bx ?_ | refine .al ?_ | refine .st ?_ | refine .ad ?_ | refine .sb ?_ | refine .mf ?_ | refine .cl ?_ | refine .cw ?_ | refine .ck ?_
      | refine A.call rfl hn (WeakL.refl _) ?_ | fail
    refine Fin.ret1 rfl (Weak.eq ?_)
    rw [if_neg c]
theorem vWhole (s : Str) (hs : s.length ≤ 281474976710656) : PFn Tryd.prog 153 [.str s] (.tup [.int .i64 (intOf s), .bool (intIs s && (numOf s == 3))]) := by
  refine AFn.plain rfl rfl (AFn.enter [2, 3] Tryd.func153 rfl rfl rfl rfl rfl (by decide) ?_)
  have hn := tNumber s (by omega)
  have hp := scParse s hs
  by_cases c : intIs s = true
  · have e : intErr s = .nili := by
      unfold intIs at c; unfold intErr
      cases h : Lib.parseIntB 64 s <;> simp_all
    rw [e] at hp
    repeat' first
      | refine .seq ?_ | refine .rg ?_ | refine .rd ?_ | refine .block ?_ | refine .scope ?_ | refine .skip ?_ | refine .label ?_ | refine .exit ?_ | refine .ret ?_
      | refine .ct ?_ | refine .cf ?_ | refine .cy ?_ | refine .cn ?_ | (refine .cond rfl ?_ ?_ <;> intro hc)
      | refine A.nil_seq ?_ | refine .nl ?_ | refine .dd ?_ | refine .ys ?_ | refine .no ?_ | (refine A.guard rfl ?_ ?_ <;> intro hc)
      | refine .lb ?_ | refine .ln ?_ | refine .ls ?_ | refine .pv ?_ | refine .ix ?_ | refine .pt ?_ | refine .pf ?_ | refine .bx ?_ | refine .al ?_ | refine .st ?_ | refine .ad ?_ | refine .sb ?_ | refine .mf ?_ | refine .cl ?_ | refine .cw ?_ | refine .ck ?_
      | refine A.call rfl hp (WeakL.refl _) ?_ | refine A.call rfl hn (WeakL.refl _) ?_ | refine A.eqnil rfl rfl rfl rfl ?_ | fail
    refine Fin.two rfl rfl (Weak.eq ?_)
    rw [c]; rfl
  · have e : intErr s = .iface 209 .undef := by
      unfold intIs at c; unfold intErr
      cases h : Lib.parseIntB 64 s <;> simp_all
    have c' : intIs s = false := by simpa using c
    rw [e] at hp
    repeat' first
      | refine .seq ?_ | refine .rg ?_ | refine .rd ?_ | refine .block ?_ | refine .scope ?_ | refine .skip ?_ | refine .label ?_ | refine .exit ?_ | refine .ret ?_
      | refine .ct ?_ | refine .cf ?_ | refine .cy ?_ | refine .cn ?_ | (refine .cond rfl ?_ ?_ <;> intro hc)
      | refine A.nil_seq ?_ | refine .nl ?_ | refine .dd ?_ | refine .ys ?_ | refine .no ?_ | (refine A.guard rfl ?_ ?_ <;> intro hc)
      | refine .lb ?_ | refine .ln ?_ | refine .ls ?_ | refine .pv ?_ | refine .ix ?_ | refine .pt ?_ | refine .pf ?_ | refine .bx ?_ | refine .al ?_ | refine .st ?_ | refine .ad ?_ | refine .sb ?_ | refine .mf ?_ | refine .cl ?_ | refine .cw ?_ | refine .ck ?_
      | refine A.call rfl hp (WeakL.refl _) ?_ | refine A.call rfl hn (WeakL.refl _) ?_ | refine A.eqnil rfl rfl rfl rfl ?_ | fail
    refine Fin.two rfl rfl (Weak.eq ?_)
    rw [c']; rfl
def numB (s : Str) : Bool := numOf s == 4 || numOf s == 3 && !(intIs s && (numOf s == 3))
theorem vnum (s : Str) (hs : s.length ≤ 281474976710656) : PFn Tryd.prog 130 [.str s] (.bool (numB s)) := by
  refine AFn.plain rfl rfl (AFn.enter [2] Tryd.func130 rfl rfl rfl rfl rfl (by decide) ?_)
  have hn := tNumber s (by omega)
  have hw := vWhole s hs
  unfold numB
  repeat' first
    | refine .seq ?_ | refine .rg ?_ | refine .rd ?_ | refine .block ?_ | refine .scope ?_ | refine .skip ?_ | refine .label ?_ | refine .exit ?_ | refine .ret ?_
    | refine .ct ?_ | refine .cf ?_ | refine .cy ?_ | refine .cn ?_ | (refine .cond rfl ?_ ?_ <;> intro hc)
    | refine A.nil_seq ?_ | refine .nl ?_ | refine .dd ?_ | refine .ys ?_ | refine .no ?_ | (refine A.guard rfl ?_ ?_ <;> intro hc)
    | refine .lb ?_ | refine .ln ?_ | refine .ls ?_ | refine .pv ?_ | refine .ix ?_ | refine .pt ?_ | refine .pf ?_ | refine .bx ?_ | refine .al ?_ | refine .st ?_ | refine .ad ?_ | refine .sb ?_ | refine .mf ?_ | refine .cl ?_ | refine .cw ?_ | refine .ck ?_
    | refine A.call rfl hn (WeakL.refl _) ?_ | refine A.call rfl hw (WeakL.refl _) ?_ | fail
  all_goals
    refine Fin.ret1 rfl (Weak.eq (congrArg AV.bool ?_))
    simp_all
def resB (s : Str) : Bool := s == [116, 114, 117, 101] || s == [102, 97, 108, 115, 101] || s == [110, 117, 108, 108]
theorem vreserved (s : Str) : PFn Tryd.prog 131 [.str s] (.bool (resB s)) := by
  refine AFn.plain rfl rfl (AFn.enter [2] Tryd.func131 rfl rfl rfl rfl rfl (by decide) ?_)
  unfold resB
  repeat' first
    | refine .seq ?_ | refine .rg ?_ | refine .rd ?_ | refine .block ?_ | refine .scope ?_ | refine .skip ?_ | refine .label ?_ | refine .exit ?_ | refine .ret ?_
    | refine .ct ?_ | refine .cf ?_ | refine .cy ?_ | refine .cn ?_ | (refine .cond rfl ?_ ?_ <;> intro hc)
    | refine A.nil_seq ?_ | refine .nl ?_ | refine .dd ?_ | refine .ys ?_ | refine .no ?_ | (refine A.guard rfl ?_ ?_ <;> intro hc)
    | refine .lb ?_ | refine .ln ?_ | refine .ls ?_ | refine .pv ?_ | refine .ix ?_ | refine .pt ?_ | refine .pf ?_ | refine .bx ?_ | refine .al ?_ | refine .st ?_ | refine .ad ?_ | refine .sb ?_ | refine .mf ?_ | refine .cl ?_ | refine .cw ?_ | refine .ck ?_ | fail
  all_goals
    refine Fin.ret1 rfl (Weak.eq (congrArg AV.bool ?_))
    simp_all
end Go.Proofs.YtijlmchfepjjkaaDoor
namespace Go.Proofs.YtijlmchfepjjkaaDoor
open Go Go.Av
set_option maxRecDepth 100000
set_option maxHeartbeats 8000000
set_option linter.unusedVariables false
set_option linter.unusedSimpArgs false

/-- Is a text code points alone? -/
def good (s : Str) : Bool := Lib.validD s
theorem validString (s : Str) (hs : s.length ≤ 9223372036854775807) : PFn Tryd.prog 85 [.str s] (.bool (good s)) := by
  refine PFn.ofBelow ⟨_, Tryd.func85, rfl, rfl⟩ rfl (fun im w vals him hgl hl => ?_)
  obtain ⟨v, rest, e, hv, hr⟩ := hl
  have hv' : v = .string ⟨s.toArray⟩ := hv
  have hr' : rest = [] := hr
  subst hv'; subst hr'
  obtain rfl : vals = #[.string ⟨s.toArray⟩] := by cases vals; simp_all
  have h3 := GlobOk.rep (g := ⟨[], [], im⟩) hgl (p := (0, .agg (Lib.firstTab.map (AV.int .u8)))) (.head _)
  have h4 := GlobOk.rep (g := ⟨[], [], im⟩) hgl (p := (1, .agg (accTab.map (AV.int .u8)))) (.tail _ (.head _))
  refine (Tryd.utf8_ValidString ⟨s.toArray⟩ w (by simpa [ByteArray.size] using hs) (utf8_tabs h3 h4)).mono ?_
  rintro e w' ⟨rfl, hb⟩
  exact ⟨⟨_, rfl, rfl⟩, hb⟩
attribute [local irreducible] HCode AOps PFn AFn Av.Step TStep
theorem lgood (s : Str) (hs : s.length ≤ 9223372036854775807) : PFn Tryd.prog 36 [.str s] (.bool (good s)) := by
  have hv := validString s hs
  refine AFn.plain rfl rfl (AFn.enter [2] Tryd.func36 rfl rfl rfl rfl rfl (by decide) ?_)
  repeat' first
    | refine .seq ?_ | refine .rg ?_ | refine .rd ?_ | refine .block ?_ | refine .scope ?_ | refine .skip ?_ | refine .label ?_ | refine .exit ?_ | refine .ret ?_
    | refine .ct ?_ | refine .cf ?_ | refine .cy ?_ | refine .cn ?_ | (refine .cond rfl ?_ ?_ <;> intro hc)
    | refine A.nil_seq ?_ | refine .nl ?_ | refine .dd ?_ | refine .ys ?_ | refine .no ?_ | (refine A.guard rfl ?_ ?_ <;> intro hc)
    | refine .lb ?_ | refine .ln ?_ | refine .ls ?_ | refine .pv ?_ | refine .ix ?_ | refine .pt ?_ | refine .pf ?_ | refine .bx ?_ | refine .al ?_ | refine .st ?_ | refine .ad ?_ | refine .sb ?_ | refine .mf ?_ | refine .cl ?_ | refine .cw ?_ | refine .ck ?_
    | refine A.call rfl hv (WeakL.refl _) ?_ | fail
  exact Fin.ret1 rfl (Weak.refl _)

end Go.Proofs.YtijlmchfepjjkaaDoor
