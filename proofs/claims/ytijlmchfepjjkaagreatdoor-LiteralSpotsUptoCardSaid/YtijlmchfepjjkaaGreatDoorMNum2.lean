/-
  The package token: whole, power, number, Number.
-/
import Derived.Test.YtijlmchfepjjkaaGreatDoorAvMap
import Derived.Test.YtijlmchfepjjkaaGreatDoorMNum
namespace Go.Proofs.YtijlmchfepjjkaaGreatDoor
open Go Go.Av
set_option maxRecDepth 100000
set_option maxHeartbeats 8000000
set_option linter.unusedVariables false
set_option linter.unusedSimpArgs false
attribute [local irreducible] HCode AOps PFn AFn Av.Step TStep

def pfx (p s : Str) : Bool := decide (p.length ≤ s.length) && (s.take p.length == p)
theorem slPrefix (s p : Str) : PFn Tryz.prog 130 [.str s, .str p] (.bool (pfx p s)) := by
  refine AFn.plain rfl rfl (AFn.enter [4] Tryz.func130 rfl rfl rfl rfl rfl (by decide) ?_)
  by_cases h1 : p.length ≤ s.length
  · have d1 : decide ((s.length : Int) ≥ (p.length : Int)) = true := by simp; omega
    have d2 : decide ((p.length : Int) ≤ (s.length : Int)) = true := by simp; omega
    repeat' first
      | refine .seq ?_ | refine .rg ?_ | refine .rd ?_ | refine .block ?_ | refine .scope ?_ | refine .skip ?_ | refine .label ?_ | refine .exit ?_ | refine .ret ?_
      | refine .ct ?_ | refine .cf ?_ | refine .cy ?_ | refine .cn ?_ | (refine .cond rfl ?_ ?_ <;> intro hc)
      | refine A.nil_seq ?_ | refine .nl ?_ | refine .dd ?_ | refine .ys ?_ | refine .no ?_ | (refine A.guard rfl ?_ ?_ <;> intro hc)
      | refine .lb ?_ | refine .ln ?_ | refine .ls ?_ | refine .pv ?_ | refine .ix ?_ | refine .pt ?_ | refine .pf ?_ | refine .bx ?_ | refine .al ?_ | refine .st ?_ | refine .ad ?_ | refine .sb ?_ | refine .mf ?_ | refine .cl ?_ | refine .cw ?_ | refine .ck ?_
      | refine A.slice_s 0 p.length rfl rfl rfl rfl rfl rfl rfl (by omega) (by omega) rfl ?_ | fail
    refine Fin.ret1 rfl (Weak.eq (congrArg AV.bool ?_))
    simp [pfx, h1]
  · have d1 : decide ((s.length : Int) ≥ (p.length : Int)) = false := by simp; omega
    have d2 : decide ((p.length : Int) ≤ (s.length : Int)) = false := by simp; omega
    repeat' first
      | refine .seq ?_ | refine .rg ?_ | refine .rd ?_ | refine .block ?_ | refine .scope ?_ | refine .skip ?_ | refine .label ?_ | refine .exit ?_ | refine .ret ?_
      | refine .ct ?_ | refine .cf ?_ | refine .cy ?_ | refine .cn ?_ | (refine .cond rfl ?_ ?_ <;> intro hc)
      | refine A.nil_seq ?_ | refine .nl ?_ | refine .dd ?_ | refine .ys ?_ | refine .no ?_ | (refine A.guard rfl ?_ ?_ <;> intro hc)
      | refine .lb ?_ | refine .ln ?_ | refine .ls ?_ | refine .pv ?_ | refine .ix ?_ | refine .pt ?_ | refine .pf ?_ | refine .bx ?_ | refine .al ?_ | refine .st ?_ | refine .ad ?_ | refine .sb ?_ | refine .mf ?_ | refine .cl ?_ | refine .cw ?_ | refine .ck ?_ | fail
    refine Fin.ret1 rfl (Weak.eq (congrArg AV.bool ?_))
    simp [pfx, h1]
theorem hasPrefix (s p : Str) : PFn Tryz.prog 123 [.str s, .str p] (.bool (pfx p s)) := by
  have h := slPrefix s p
  refine AFn.plain rfl rfl (AFn.enter [4] Tryz.func123 rfl rfl rfl rfl rfl (by decide) ?_)
  repeat' first
    | refine .seq ?_ | refine .rg ?_ | refine .rd ?_ | refine .block ?_ | refine .scope ?_ | refine .skip ?_ | refine .label ?_ | refine .exit ?_ | refine .ret ?_
    | refine .ct ?_ | refine .cf ?_ | refine .cy ?_ | refine .cn ?_ | (refine .cond rfl ?_ ?_ <;> intro hc)
    | refine A.nil_seq ?_ | refine .nl ?_ | refine .dd ?_ | refine .ys ?_ | refine .no ?_ | (refine A.guard rfl ?_ ?_ <;> intro hc)
    | refine .lb ?_ | refine .ln ?_ | refine .ls ?_ | refine .pv ?_ | refine .ix ?_ | refine .pt ?_ | refine .pf ?_ | refine .bx ?_ | refine .al ?_ | refine .st ?_ | refine .ad ?_ | refine .sb ?_ | refine .mf ?_ | refine .cl ?_ | refine .cw ?_ | refine .ck ?_
    | refine A.call rfl h (WeakL.refl _) ?_ | fail
  exact Fin.ret1 rfl (Weak.refl _)

/-- How many bytes of a whole number are ahead. -/
def wholeAt (s : Str) (n : Nat) : Nat := if digs (s.drop n) = 0 then 0 else if s[n]? = some 48 then n + 1 else n + digs (s.drop n)
def wholeN (s : Str) : Nat := if pfx [45] s = true then wholeAt s 1 else wholeAt s 0
theorem wholeAt_le {s : Str} {n : Nat} (h : n ≤ s.length) : wholeAt s n ≤ s.length := by
  have := digs_le (s.drop n)
  rw [List.length_drop] at this
  unfold wholeAt
  split
  · omega
  · split <;> omega
theorem pfx1 {c : UInt8} {s : Str} (h : pfx [c] s = true) : 1 ≤ s.length := by
  simp only [pfx, Bool.and_eq_true, decide_eq_true_eq] at h
  exact h.1
theorem wholeN_le (s : Str) : wholeN s ≤ s.length := by
  unfold wholeN
  split
  · exact wholeAt_le (pfx1 (by assumption))
  · exact wholeAt_le (Nat.zero_le _)
theorem tWhole (s : Str) (hs : s.length ≤ 9223372036854775806) : PFn Tryz.prog 122 [.str s] (.int .i64 (wholeN s)) := by
  refine AFn.plain rfl rfl (AFn.enter [2] Tryz.func122 rfl rfl rfl rfl rfl (by decide) ?_)
  have hp := hasPrefix s [45]
  by_cases c1 : pfx [45] s = true
  · have hn : 1 ≤ s.length := pfx1 c1
    have hd := tDigits (s.drop 1) (by rw [List.length_drop]; omega)
    have hle := digs_le (s.drop 1)
    rw [List.length_drop] at hle
    by_cases c2 : digs (s.drop 1) = 0
    · have e2 : ((digs (s.drop 1) : Int) == 0) = true := by rw [c2]; rfl
      repeat' first
        | refine .seq ?_ | refine .rg ?_ | refine .rd ?_ | refine .block ?_ | refine .scope ?_ | refine .skip ?_ | refine .label ?_ | refine .exit ?_ | refine .ret ?_
        | refine .ct ?_ | refine .cf ?_ | refine .cy ?_ | refine .cn ?_ | (refine .cond rfl ?_ ?_ <;> intro hc)
        | refine A.nil_seq ?_ | refine .nl ?_ | refine .dd ?_ | refine .ys ?_ | refine .no ?_ | (refine A.guard rfl ?_ ?_ <;> intro hc)
        | refine .lb ?_ | refine .ln ?_ | refine .ls ?_ | refine .pv ?_ | refine .ix ?_ | refine .pt ?_ | refine .pf ?_ | refine .bx ?_ | refine .al ?_ | refine .st ?_ | refine .ad ?_ | refine .sb ?_ | refine .mf ?_ | refine .cl ?_ | refine .cw ?_ | refine .ck ?_
        | refine A.call rfl hp (WeakL.refl _) ?_ | refine A.slice_s 1 s.length rfl rfl rfl rfl rfl rfl rfl (by omega) (by omega) (by rw [List.take_length]) ?_ | refine A.call rfl hd (WeakL.refl _) ?_ | fail
      refine Fin.ret1 rfl (Weak.eq (congrArg (AV.int .i64) ?_))
      rw [wholeN, if_pos c1, wholeAt, if_pos c2]; rfl
    · have e2 : ((digs (s.drop 1) : Int) == 0) = false := beq_eq_false_iff_ne.2 (by omega)
      have hlt : 1 < s.length := by omega
      have x1 := get_str hlt
      by_cases c3 : s[1] = 48
      · have e3 : ((s[1].toNat : Int) == 48) = true := by rw [c3]; rfl
        repeat' first
          | refine .seq ?_ | refine .rg ?_ | refine .rd ?_ | refine .block ?_ | refine .scope ?_ | refine .skip ?_ | refine .label ?_ | refine .exit ?_ | refine .ret ?_
          | refine .ct ?_ | refine .cf ?_ | refine .cy ?_ | refine .cn ?_ | (refine .cond rfl ?_ ?_ <;> intro hc)
          | refine A.nil_seq ?_ | refine .nl ?_ | refine .dd ?_ | refine .ys ?_ | refine .no ?_ | (refine A.guard rfl ?_ ?_ <;> intro hc)
          | refine .lb ?_ | refine .ln ?_ | refine .ls ?_ | refine .pv ?_ | refine .ix ?_ | refine .pt ?_ | refine .pf ?_ | refine .bx ?_ | refine .al ?_ | refine .st ?_ | refine .ad ?_ | refine .sb ?_ | refine .mf ?_ | refine .cl ?_ | refine .cw ?_ | refine .ck ?_
          | refine A.call rfl hp (WeakL.refl _) ?_ | refine A.slice_s 1 s.length rfl rfl rfl rfl rfl rfl rfl (by omega) (by omega) (by rw [List.take_length]) ?_ | refine A.call rfl hd (WeakL.refl _) ?_ | refine A.index_s (j := 1) rfl rfl rfl rfl rfl (by assumption) ?_ | fail
        refine Fin.ret1 rfl (Weak.eq (congrArg (AV.int .i64) ?_))
        rw [wholeN, if_pos c1, wholeAt, if_neg c2, x1, if_pos (congrArg some c3)]; rfl
      · have e3 : ((s[1].toNat : Int) == 48) = false := by
          have : s[1].toNat ≠ 48 := fun h => c3 (UInt8.toNat_inj.1 (h.trans rfl))
          simp; omega
        repeat' first
          | refine .seq ?_ | refine .rg ?_ | refine .rd ?_ | refine .block ?_ | refine .scope ?_ | refine .skip ?_ | refine .label ?_ | refine .exit ?_ | refine .ret ?_
          | refine .ct ?_ | refine .cf ?_ | refine .cy ?_ | refine .cn ?_ | (refine .cond rfl ?_ ?_ <;> intro hc)
          | refine A.nil_seq ?_ | refine .nl ?_ | refine .dd ?_ | refine .ys ?_ | refine .no ?_ | (refine A.guard rfl ?_ ?_ <;> intro hc)
          | refine .lb ?_ | refine .ln ?_ | refine .ls ?_ | refine .pv ?_ | refine .ix ?_ | refine .pt ?_ | refine .pf ?_ | refine .bx ?_ | refine .al ?_ | refine .st ?_ | refine .ad ?_ | refine .sb ?_ | refine .mf ?_ | refine .cl ?_ | refine .cw ?_ | refine .ck ?_
          | refine A.call rfl hp (WeakL.refl _) ?_ | refine A.slice_s 1 s.length rfl rfl rfl rfl rfl rfl rfl (by omega) (by omega) (by rw [List.take_length]) ?_ | refine A.call rfl hd (WeakL.refl _) ?_ | refine A.index_s (j := 1) rfl rfl rfl rfl rfl (by assumption) ?_ | fail
        refine Fin.ret1 rfl (Weak.eq (congrArg (AV.int .i64) ?_))
        rw [wholeN, if_pos c1, wholeAt, if_neg c2, x1, if_neg (fun h => c3 (Option.some.inj h))]; omega
  · have c1' : pfx [45] s = false := by simpa using c1
    have hd := tDigits s hs
    have hle := digs_le s
    by_cases c2 : digs s = 0
    · have e2 : ((digs s : Int) == 0) = true := by simp [c2]
      repeat' first
        | refine .seq ?_ | refine .rg ?_ | refine .rd ?_ | refine .block ?_ | refine .scope ?_ | refine .skip ?_ | refine .label ?_ | refine .exit ?_ | refine .ret ?_
        | refine .ct ?_ | refine .cf ?_ | refine .cy ?_ | refine .cn ?_ | (refine .cond rfl ?_ ?_ <;> intro hc)
        | refine A.nil_seq ?_ | refine .nl ?_ | refine .dd ?_ | refine .ys ?_ | refine .no ?_ | (refine A.guard rfl ?_ ?_ <;> intro hc)
        | refine .lb ?_ | refine .ln ?_ | refine .ls ?_ | refine .pv ?_ | refine .ix ?_ | refine .pt ?_ | refine .pf ?_ | refine .bx ?_ | refine .al ?_ | refine .st ?_ | refine .ad ?_ | refine .sb ?_ | refine .mf ?_ | refine .cl ?_ | refine .cw ?_ | refine .ck ?_
        | refine A.call rfl hp (WeakL.refl _) ?_ | refine A.slice_s 0 s.length rfl rfl rfl rfl rfl rfl rfl (by omega) (by omega) (by rw [List.take_length, List.drop_zero]) ?_ | refine A.call rfl hd (WeakL.refl _) ?_ | fail
      refine Fin.ret1 rfl (Weak.eq (congrArg (AV.int .i64) ?_))
      rw [wholeN, if_neg c1, wholeAt, List.drop_zero, if_pos c2]; rfl
    · have e2 : ((digs s : Int) == 0) = false := by simp [c2]
      have hlt : 0 < s.length := by omega
      have x1 := get_str hlt
      by_cases c3 : s[0] = 48
      · have e3 : ((s[0].toNat : Int) == 48) = true := by rw [c3]; rfl
        repeat' first
          | refine .seq ?_ | refine .rg ?_ | refine .rd ?_ | refine .block ?_ | refine .scope ?_ | refine .skip ?_ | refine .label ?_ | refine .exit ?_ | refine .ret ?_
          | refine .ct ?_ | refine .cf ?_ | refine .cy ?_ | refine .cn ?_ | (refine .cond rfl ?_ ?_ <;> intro hc)
          | refine A.nil_seq ?_ | refine .nl ?_ | refine .dd ?_ | refine .ys ?_ | refine .no ?_ | (refine A.guard rfl ?_ ?_ <;> intro hc)
          | refine .lb ?_ | refine .ln ?_ | refine .ls ?_ | refine .pv ?_ | refine .ix ?_ | refine .pt ?_ | refine .pf ?_ | refine .bx ?_ | refine .al ?_ | refine .st ?_ | refine .ad ?_ | refine .sb ?_ | refine .mf ?_ | refine .cl ?_ | refine .cw ?_ | refine .ck ?_
          | refine A.call rfl hp (WeakL.refl _) ?_ | refine A.slice_s 0 s.length rfl rfl rfl rfl rfl rfl rfl (by omega) (by omega) (by rw [List.take_length, List.drop_zero]) ?_ | refine A.call rfl hd (WeakL.refl _) ?_ | refine A.index_s (j := 0) rfl rfl rfl rfl rfl (by assumption) ?_ | fail
        refine Fin.ret1 rfl (Weak.eq (congrArg (AV.int .i64) ?_))
        rw [wholeN, if_neg c1, wholeAt, List.drop_zero, if_neg c2, x1, if_pos (congrArg some c3)]; rfl
      · have e3 : ((s[0].toNat : Int) == 48) = false := by
          have : s[0].toNat ≠ 48 := fun h => c3 (UInt8.toNat_inj.1 (h.trans rfl))
          simp; omega
        repeat' first
          | refine .seq ?_ | refine .rg ?_ | refine .rd ?_ | refine .block ?_ | refine .scope ?_ | refine .skip ?_ | refine .label ?_ | refine .exit ?_ | refine .ret ?_
          | refine .ct ?_ | refine .cf ?_ | refine .cy ?_ | refine .cn ?_ | (refine .cond rfl ?_ ?_ <;> intro hc)
          | refine A.nil_seq ?_ | refine .nl ?_ | refine .dd ?_ | refine .ys ?_ | refine .no ?_ | (refine A.guard rfl ?_ ?_ <;> intro hc)
          | refine .lb ?_ | refine .ln ?_ | refine .ls ?_ | refine .pv ?_ | refine .ix ?_ | refine .pt ?_ | refine .pf ?_ | refine .bx ?_ | refine .al ?_ | refine .st ?_ | refine .ad ?_ | refine .sb ?_ | refine .mf ?_ | refine .cl ?_ | refine .cw ?_ | refine .ck ?_
          | refine A.call rfl hp (WeakL.refl _) ?_ | refine A.slice_s 0 s.length rfl rfl rfl rfl rfl rfl rfl (by omega) (by omega) (by rw [List.take_length, List.drop_zero]) ?_ | refine A.call rfl hd (WeakL.refl _) ?_ | refine A.index_s (j := 0) rfl rfl rfl rfl rfl (by assumption) ?_ | fail
        refine Fin.ret1 rfl (Weak.eq (congrArg (AV.int .i64) ?_))
        rw [wholeN, if_neg c1, wholeAt, List.drop_zero, if_neg c2, x1, if_neg (fun h => c3 (Option.some.inj h))]; omega

def expAt (s : Str) (n : Nat) : Nat := if digs (s.drop n) = 0 then 0 else n + digs (s.drop n)
/-- How many bytes of an exponent are ahead. -/
def powN (s : Str) : Nat :=
  if (s.getD 0 0).toNat = 101 ∨ (s.getD 0 0).toNat = 69 then
    (if 1 < s.length ∧ ((s.getD 1 0).toNat = 43 ∨ (s.getD 1 0).toNat = 45) then expAt s 2 else expAt s 1)
  else 0
theorem expAt_le {s : Str} {n : Nat} (h : n ≤ s.length) : expAt s n ≤ s.length := by
  have := digs_le (s.drop n)
  rw [List.length_drop] at this
  unfold expAt
  split <;> omega
theorem powN_le (s : Str) : powN s ≤ s.length := by
  unfold powN
  split
  · have h : 1 ≤ s.length := by
      cases s with
      | nil => simp_all
      | cons c s => simp
    split
    · exact expAt_le (by omega)
    · exact expAt_le h
  · omega
theorem getD_of {s : Str} {k : Nat} (h : k < s.length) : s.getD k 0 = s[k] := by simp [List.getD, h]
theorem tPower (s : Str) (hs : s.length ≤ 9223372036854775806) : PFn Tryz.prog 125 [.str s] (.int .i64 (powN s)) := by
  refine AFn.plain rfl rfl (AFn.enter [2] Tryz.func125 rfl rfl rfl rfl rfl (by decide) ?_)
  by_cases h0 : s.length = 0
  · obtain rfl := List.eq_nil_of_length_eq_zero h0
    repeat' first
      | refine .seq ?_ | refine .rg ?_ | refine .rd ?_ | refine .block ?_ | refine .scope ?_ | refine .skip ?_ | refine .label ?_ | refine .exit ?_ | refine .ret ?_
      | refine .ct ?_ | refine .cf ?_ | refine .cy ?_ | refine .cn ?_ | (refine .cond rfl ?_ ?_ <;> intro hc)
      | refine A.nil_seq ?_ | refine .nl ?_ | refine .dd ?_ | refine .ys ?_ | refine .no ?_ | (refine A.guard rfl ?_ ?_ <;> intro hc)
      | refine .lb ?_ | refine .ln ?_ | refine .ls ?_ | refine .pv ?_ | refine .ix ?_ | refine .pt ?_ | refine .pf ?_ | refine .bx ?_ | refine .al ?_ | refine .st ?_ | refine .ad ?_ | refine .sb ?_ | refine .mf ?_ | refine .cl ?_ | refine .cw ?_ | refine .ck ?_ | fail
    refine Fin.ret1 rfl (Weak.eq (congrArg (AV.int .i64) ?_))
    rfl
  · have h0' : 0 < s.length := by omega
    have hne : (s == []) = false := by cases s <;> simp_all
    have x0 := get_str h0'
    have hd1 := tDigits (s.drop 1) (by rw [List.length_drop]; omega)
    have hle1 := digs_le (s.drop 1)
    rw [List.length_drop] at hle1
    have g0 := getD_of h0'
    by_cases h1 : 1 < s.length
    · have x1 := get_str h1
      have g1 := getD_of h1
      have d1 : decide ((s.length : Int) > 1) = true := by simp; omega
      have hd2 := tDigits (s.drop 2) (by rw [List.length_drop]; omega)
      have hle2 := digs_le (s.drop 2)
      rw [List.length_drop] at hle2
      repeat' first
        | refine .seq ?_ | refine .rg ?_ | refine .rd ?_ | refine .block ?_ | refine .scope ?_ | refine .skip ?_ | refine .label ?_ | refine .exit ?_ | refine .ret ?_
        | refine .ct ?_ | refine .cf ?_ | refine .cy ?_ | refine .cn ?_ | (refine .cond rfl ?_ ?_ <;> intro hc)
        | refine A.nil_seq ?_ | refine .nl ?_ | refine .dd ?_ | refine .ys ?_ | refine .no ?_ | (refine A.guard rfl ?_ ?_ <;> intro hc)
        | refine .lb ?_ | refine .ln ?_ | refine .ls ?_ | refine .pv ?_ | refine .ix ?_ | refine .pt ?_ | refine .pf ?_ | refine .bx ?_ | refine .al ?_ | refine .st ?_ | refine .ad ?_ | refine .sb ?_ | refine .mf ?_ | refine .cl ?_ | refine .cw ?_ | refine .ck ?_
        | refine A.index_s (j := 0) rfl rfl rfl rfl rfl (by assumption) ?_ | refine A.index_s (j := 1) rfl rfl rfl rfl rfl (by assumption) ?_ | refine A.slice_s 1 s.length rfl rfl rfl rfl rfl rfl rfl (by omega) (by omega) (by rw [List.take_length]) ?_ | refine A.slice_s 2 s.length rfl rfl rfl rfl rfl rfl rfl (by omega) (by omega) (by rw [List.take_length]) ?_ | refine A.call rfl hd1 (WeakL.refl _) ?_ | refine A.call rfl hd2 (WeakL.refl _) ?_ | fail
      all_goals
        refine Fin.ret1 rfl (Weak.eq (congrArg (AV.int .i64) ?_))
        unfold powN expAt
        rw [g0, g1]
        simp [-List.drop_one] at *
        (repeat' split) <;> omega
    · have d1 : decide ((s.length : Int) > 1) = false := by simp; omega
      repeat' first
        | refine .seq ?_ | refine .rg ?_ | refine .rd ?_ | refine .block ?_ | refine .scope ?_ | refine .skip ?_ | refine .label ?_ | refine .exit ?_ | refine .ret ?_
        | refine .ct ?_ | refine .cf ?_ | refine .cy ?_ | refine .cn ?_ | (refine .cond rfl ?_ ?_ <;> intro hc)
        | refine A.nil_seq ?_ | refine .nl ?_ | refine .dd ?_ | refine .ys ?_ | refine .no ?_ | (refine A.guard rfl ?_ ?_ <;> intro hc)
        | refine .lb ?_ | refine .ln ?_ | refine .ls ?_ | refine .pv ?_ | refine .ix ?_ | refine .pt ?_ | refine .pf ?_ | refine .bx ?_ | refine .al ?_ | refine .st ?_ | refine .ad ?_ | refine .sb ?_ | refine .mf ?_ | refine .cl ?_ | refine .cw ?_ | refine .ck ?_
        | refine A.index_s (j := 0) rfl rfl rfl rfl rfl (by assumption) ?_ | refine A.slice_s 1 s.length rfl rfl rfl rfl rfl rfl rfl (by omega) (by omega) (by rw [List.take_length]) ?_ | refine A.call rfl hd1 (WeakL.refl _) ?_ | fail
      all_goals
        refine Fin.ret1 rfl (Weak.eq (congrArg (AV.int .i64) ?_))
        unfold powN expAt
        rw [g0]
        simp [-List.drop_one] at *
        (repeat' split) <;> omega
end Go.Proofs.YtijlmchfepjjkaaGreatDoor
