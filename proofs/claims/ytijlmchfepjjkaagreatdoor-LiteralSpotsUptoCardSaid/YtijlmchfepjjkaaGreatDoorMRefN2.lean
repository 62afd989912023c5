/-
  The reference: numeral, Number.
-/
import Derived.Test.YtijlmchfepjjkaaGreatDoorMRefN
namespace Go.Proofs.YtijlmchfepjjkaaGreatDoor
open Go Go.Av
set_option maxRecDepth 100000
set_option maxHeartbeats 16000000
set_option linter.unusedVariables false
set_option linter.unusedSimpArgs false
attribute [local irreducible] HCode AOps PFn AFn Av.Step TStep

theorem pfx_cons (d c : UInt8) (r : Str) : pfx [d] (c :: r) = (c == d) := by rw [Bool.eq_iff_iff]; simp [pfx]
theorem num2 (s : Str) (i : Nat) (hs : s.length ≤ 4611686018427387000) (hi : i ≤ s.length) :
    HCode Tryz.prog Tryz.f67.ntmps [] (tailOf 7 (bodyOf Tryz.f67)) (fin [2, 3] (fun e _ => ∃ v, e = .ret v ∧ Weak v (.tup [.int .i64 (expN s (dotN s i).1 (dotN s i).2).1, .int .i64 (expN s (dotN s i).1 (dotN s i).2).2])))
      [(0, .str s), (4, .int .i64 (i : Int)), (6, .int .i64 3)] ⟨[], []⟩ := by
  unfold dotN
  by_cases h1 : i < s.length
  · have d1 : decide ((i : Int) < (s.length : Int)) = true := decide_eq_true (by omega)
    have x1 := get_str h1
    have hr1 := rRun s (i + 1) (by omega) (by omega)
    have hle1 := digs_le (s.drop (i + 1))
    rw [List.length_drop] at hle1
    have hpx : pfx [46] (s.drop i) = (s[i] == 46) := by
      rw [List.drop_eq_getElem_cons h1, pfx_cons]
    by_cases q : s[i] = 46
    · have e1 : ((s[i].toNat : Int) == 46) = true := by rw [q]; rfl
      rw [hpx, if_pos (by simpa using q)]
      by_cases c3 : digs (s.drop (i + 1)) = 0
      · have d3 : decide (0 < (digs (s.drop (i + 1)) : Int)) = false := decide_eq_false (by omega)
        rw [if_pos c3]
        have hend := num3 s i 3 hs hi
        repeat' first
          | (refine HCode.weaken hend ?_; exact ⟨rfl, rfl, rfl, trivial⟩)
          | refine .seq ?_ | refine .rg ?_ | refine .rd ?_ | refine .block ?_ | refine .scope ?_ | refine .skip ?_ | refine .label ?_ | refine .exit ?_ | refine .ret ?_
          | refine .ct ?_ | refine .cf ?_ | refine .cy ?_ | refine .cn ?_ | (refine .cond rfl ?_ ?_ <;> intro hc)
          | refine A.nil_seq ?_ | refine .nl ?_ | refine .dd ?_ | refine .ys ?_ | refine .no ?_ | (refine A.guard rfl ?_ ?_ <;> intro hc)
          | refine .lb ?_ | refine .ln ?_ | refine .ls ?_ | refine .pv ?_ | refine .ix ?_ | refine .pt ?_ | refine .pf ?_ | refine .bx ?_ | refine .al ?_ | refine .st ?_ | refine .ad ?_ | refine .sb ?_ | refine .mf ?_ | refine .cl ?_ | refine .cw ?_ | refine .ck ?_
          | refine A.index_s (j := i) rfl rfl rfl rfl rfl (by assumption) ?_ | fail
      · have d3 : decide (0 < (digs (s.drop (i + 1)) : Int)) = true := decide_eq_true (by omega)
        rw [if_neg c3]
        have hend := num3 s (i + 1 + digs (s.drop (i + 1))) 4 hs (by omega)
        repeat' first
          | (refine HCode.weaken hend ?_; exact ⟨rfl, rfl, rfl, trivial⟩)
          | refine .seq ?_ | refine .rg ?_ | refine .rd ?_ | refine .block ?_ | refine .scope ?_ | refine .skip ?_ | refine .label ?_ | refine .exit ?_ | refine .ret ?_
          | refine .ct ?_ | refine .cf ?_ | refine .cy ?_ | refine .cn ?_ | (refine .cond rfl ?_ ?_ <;> intro hc)
          | refine A.nil_seq ?_ | refine .nl ?_ | refine .dd ?_ | refine .ys ?_ | refine .no ?_ | (refine A.guard rfl ?_ ?_ <;> intro hc)
          | refine .lb ?_ | refine .ln ?_ | refine .ls ?_ | refine .pv ?_ | refine .ix ?_ | refine .pt ?_ | refine .pf ?_ | refine .bx ?_ | refine .al ?_ | refine .st ?_ | refine .ad ?_ | refine .sb ?_ | refine .mf ?_ | refine .cl ?_ | refine .cw ?_ | refine .ck ?_
          | refine A.index_s (j := i) rfl rfl rfl rfl rfl (by assumption) ?_ | fail
    · have e1 : ((s[i].toNat : Int) == 46) = false := beq_no (fun h => q (UInt8.toNat_inj.1 (by
        have : s[i].toNat = 46 := by omega
        rw [this]; rfl)))
      rw [hpx, if_neg (by simpa using q)]
      have hend := num3 s i 3 hs hi
      repeat' first
        | (refine HCode.weaken hend ?_; exact ⟨rfl, rfl, rfl, trivial⟩)
        | refine .seq ?_ | refine .rg ?_ | refine .rd ?_ | refine .block ?_ | refine .scope ?_ | refine .skip ?_ | refine .label ?_ | refine .exit ?_ | refine .ret ?_
        | refine .ct ?_ | refine .cf ?_ | refine .cy ?_ | refine .cn ?_ | (refine .cond rfl ?_ ?_ <;> intro hc)
        | refine A.nil_seq ?_ | refine .nl ?_ | refine .dd ?_ | refine .ys ?_ | refine .no ?_ | (refine A.guard rfl ?_ ?_ <;> intro hc)
        | refine .lb ?_ | refine .ln ?_ | refine .ls ?_ | refine .pv ?_ | refine .ix ?_ | refine .pt ?_ | refine .pf ?_ | refine .bx ?_ | refine .al ?_ | refine .st ?_ | refine .ad ?_ | refine .sb ?_ | refine .mf ?_ | refine .cl ?_ | refine .cw ?_ | refine .ck ?_
        | refine A.index_s (j := i) rfl rfl rfl rfl rfl (by assumption) ?_ | fail
  · have d1 : decide ((i : Int) < (s.length : Int)) = false := decide_eq_false (by omega)
    have hpx : pfx [46] (s.drop i) = false := by rw [List.drop_eq_nil_of_le (by omega)]; rfl
    rw [hpx, if_neg (by decide)]
    have hend := num3 s i 3 hs hi
    repeat' first
      | (refine HCode.weaken hend ?_; exact ⟨rfl, rfl, rfl, trivial⟩)
      | refine .seq ?_ | refine .rg ?_ | refine .rd ?_ | refine .block ?_ | refine .scope ?_ | refine .skip ?_ | refine .label ?_ | refine .exit ?_ | refine .ret ?_
      | refine .ct ?_ | refine .cf ?_ | refine .cy ?_ | refine .cn ?_ | (refine .cond rfl ?_ ?_ <;> intro hc)
      | refine A.nil_seq ?_ | refine .nl ?_ | refine .dd ?_ | refine .ys ?_ | refine .no ?_ | (refine A.guard rfl ?_ ?_ <;> intro hc)
      | refine .lb ?_ | refine .ln ?_ | refine .ls ?_ | refine .pv ?_ | refine .ix ?_ | refine .pt ?_ | refine .pf ?_ | refine .bx ?_ | refine .al ?_ | refine .st ?_ | refine .ad ?_ | refine .sb ?_ | refine .mf ?_ | refine .cl ?_ | refine .cw ?_ | refine .ck ?_ | fail
theorem numK_eq (s : Str) : numK s = if wholeN s = 0 then (0, 0) else expN s (dotN s (wholeN s)).1 (dotN s (wholeN s)).2 := by
  unfold numK expN
  split
  · rfl
  · split <;> rfl
theorem rnumeral (s : Str) (hs : s.length ≤ 4611686018427387000) : PFn Tryz.prog 67 [.str s] (.tup [.int .i64 (numK s).1, .int .i64 (numK s).2]) := by
  refine AFn.plain rfl rfl (AFn.enter [2, 3] Tryz.func67 rfl rfl rfl rfl rfl (by decide) ?_)
  rw [numK_eq]
  have hle := wholeN_le s
  by_cases h0 : s.length = 0
  · obtain rfl := List.eq_nil_of_length_eq_zero h0
    have hr := rRun [] 0 (by simp) (by simp)
    have e0 : digs (([] : Str).drop 0) = 0 := rfl
    rw [e0] at hr
    repeat' first
      | refine .seq ?_ | refine .rg ?_ | refine .rd ?_ | refine .block ?_ | refine .scope ?_ | refine .skip ?_ | refine .label ?_ | refine .exit ?_ | refine .ret ?_
      | refine .ct ?_ | refine .cf ?_ | refine .cy ?_ | refine .cn ?_ | (refine .cond rfl ?_ ?_ <;> intro hc)
      | refine A.nil_seq ?_ | refine .nl ?_ | refine .dd ?_ | refine .ys ?_ | refine .no ?_ | (refine A.guard rfl ?_ ?_ <;> intro hc)
      | refine .lb ?_ | refine .ln ?_ | refine .ls ?_ | refine .pv ?_ | refine .ix ?_ | refine .pt ?_ | refine .pf ?_ | refine .bx ?_ | refine .al ?_ | refine .st ?_ | refine .ad ?_ | refine .sb ?_ | refine .mf ?_ | refine .cl ?_ | refine .cw ?_ | refine .ck ?_ | fail
    exact Fin.two rfl rfl (Weak.refl _)
  · have h0' : 0 < s.length := by omega
    have d0 : decide ((0 : Int) < (s.length : Int)) = true := decide_eq_true (by omega)
    have x0 := get_str h0'
    have hpx : pfx [45] s = (s[0] == 45) := by
      cases s with
      | nil => simp at h0'
      | cons c s => rw [Bool.eq_iff_iff]; simp [pfx]
    have main : ∀ i0 : Nat, i0 ≤ s.length → wholeN s = wholeAt s i0 → (digs (s.drop i0) = 0 ∨ ((digs (s.drop i0) : Int) ≠ 0 ∧ ∃ h : i0 < s.length, wholeN s = if s[i0] = 48 then i0 + 1 else i0 + digs (s.drop i0))) := fun i0 hi hw => by
      by_cases c : digs (s.drop i0) = 0
      · exact .inl c
      · have hd := digs_le (s.drop i0)
        rw [List.length_drop] at hd
        have hlt : i0 < s.length := by omega
        refine .inr ⟨by omega, hlt, ?_⟩
        rw [hw, wholeAt, if_neg c, get_str hlt]
        simp
    by_cases q : s[0] = 45
    · have e1 : ((s[0].toNat : Int) == 45) = true := by rw [q]; rfl
      have hw : wholeN s = wholeAt s 1 := by rw [wholeN, hpx, if_pos (by simpa using q)]
      have hr := rRun s 1 (by omega) (by omega)
      have hd := digs_le (s.drop 1)
      rw [List.length_drop] at hd
      rcases main 1 (by omega) hw with c | ⟨c, hlt, hw2⟩
      · have e2 : ((digs (s.drop 1) : Int) == 0) = true := beq_yes (by omega)
        rw [hw, wholeAt, if_pos c, if_pos rfl]
        repeat' first
          | refine .seq ?_ | refine .rg ?_ | refine .rd ?_ | refine .block ?_ | refine .scope ?_ | refine .skip ?_ | refine .label ?_ | refine .exit ?_ | refine .ret ?_
          | refine .ct ?_ | refine .cf ?_ | refine .cy ?_ | refine .cn ?_ | (refine .cond rfl ?_ ?_ <;> intro hc)
          | refine A.nil_seq ?_ | refine .nl ?_ | refine .dd ?_ | refine .ys ?_ | refine .no ?_ | (refine A.guard rfl ?_ ?_ <;> intro hc)
          | refine .lb ?_ | refine .ln ?_ | refine .ls ?_ | refine .pv ?_ | refine .ix ?_ | refine .pt ?_ | refine .pf ?_ | refine .bx ?_ | refine .al ?_ | refine .st ?_ | refine .ad ?_ | refine .sb ?_ | refine .mf ?_ | refine .cl ?_ | refine .cw ?_ | refine .ck ?_
          | refine A.index_s (j := 0) rfl rfl rfl rfl rfl (by assumption) ?_ | fail
        exact Fin.two rfl rfl (Weak.refl _)
      · have e2 : ((digs (s.drop 1) : Int) == 0) = false := beq_no c
        have x2 := get_str hlt
        by_cases z : s[1] = 48
        · have e3 : ((s[1].toNat : Int) == 48) = true := by rw [z]; rfl
          rw [if_pos z] at hw2
          have hend := num2 s 2 hs (by omega)
          rw [hw2, if_neg (by omega)]
          repeat' first
            | (refine HCode.weaken hend ?_; exact ⟨rfl, rfl, rfl, trivial⟩)
            | refine .seq ?_ | refine .rg ?_ | refine .rd ?_ | refine .block ?_ | refine .scope ?_ | refine .skip ?_ | refine .label ?_ | refine .exit ?_ | refine .ret ?_
            | refine .ct ?_ | refine .cf ?_ | refine .cy ?_ | refine .cn ?_ | (refine .cond rfl ?_ ?_ <;> intro hc)
            | refine A.nil_seq ?_ | refine .nl ?_ | refine .dd ?_ | refine .ys ?_ | refine .no ?_ | (refine A.guard rfl ?_ ?_ <;> intro hc)
            | refine .lb ?_ | refine .ln ?_ | refine .ls ?_ | refine .pv ?_ | refine .ix ?_ | refine .pt ?_ | refine .pf ?_ | refine .bx ?_ | refine .al ?_ | refine .st ?_ | refine .ad ?_ | refine .sb ?_ | refine .mf ?_ | refine .cl ?_ | refine .cw ?_ | refine .ck ?_
            | refine A.index_s (j := 0) rfl rfl rfl rfl rfl (by assumption) ?_ | refine A.index_s (j := 1) rfl rfl rfl rfl rfl (by assumption) ?_ | fail
        · have e3 : ((s[1].toNat : Int) == 48) = false := beq_no (fun h => z (UInt8.toNat_inj.1 (by
            have : s[1].toNat = 48 := by omega
            rw [this]; rfl)))
          rw [if_neg z] at hw2
          have hend := num2 s (1 + digs (s.drop 1)) hs (by omega)
          rw [hw2, if_neg (by omega)]
          repeat' first
            | (refine HCode.weaken hend ?_; exact ⟨rfl, rfl, rfl, trivial⟩)
            | refine .seq ?_ | refine .rg ?_ | refine .rd ?_ | refine .block ?_ | refine .scope ?_ | refine .skip ?_ | refine .label ?_ | refine .exit ?_ | refine .ret ?_
            | refine .ct ?_ | refine .cf ?_ | refine .cy ?_ | refine .cn ?_ | (refine .cond rfl ?_ ?_ <;> intro hc)
            | refine A.nil_seq ?_ | refine .nl ?_ | refine .dd ?_ | refine .ys ?_ | refine .no ?_ | (refine A.guard rfl ?_ ?_ <;> intro hc)
            | refine .lb ?_ | refine .ln ?_ | refine .ls ?_ | refine .pv ?_ | refine .ix ?_ | refine .pt ?_ | refine .pf ?_ | refine .bx ?_ | refine .al ?_ | refine .st ?_ | refine .ad ?_ | refine .sb ?_ | refine .mf ?_ | refine .cl ?_ | refine .cw ?_ | refine .ck ?_
            | refine A.index_s (j := 0) rfl rfl rfl rfl rfl (by assumption) ?_ | refine A.index_s (j := 1) rfl rfl rfl rfl rfl (by assumption) ?_ | fail
    · have e1 : ((s[0].toNat : Int) == 45) = false := beq_no (fun h => q (UInt8.toNat_inj.1 (by
        have : s[0].toNat = 45 := by omega
        rw [this]; rfl)))
      have hw : wholeN s = wholeAt s 0 := by rw [wholeN, hpx, if_neg (by simpa using q)]
      have hr := rRun s 0 (by omega) (by omega)
      have hd := digs_le (s.drop 0)
      rw [List.length_drop] at hd
      rcases main 0 (by omega) hw with c | ⟨c, hlt, hw2⟩
      · have e2 : ((digs (s.drop 0) : Int) == 0) = true := beq_yes (by omega)
        rw [hw, wholeAt, if_pos c, if_pos rfl]
        repeat' first
          | refine .seq ?_ | refine .rg ?_ | refine .rd ?_ | refine .block ?_ | refine .scope ?_ | refine .skip ?_ | refine .label ?_ | refine .exit ?_ | refine .ret ?_
          | refine .ct ?_ | refine .cf ?_ | refine .cy ?_ | refine .cn ?_ | (refine .cond rfl ?_ ?_ <;> intro hc)
          | refine A.nil_seq ?_ | refine .nl ?_ | refine .dd ?_ | refine .ys ?_ | refine .no ?_ | (refine A.guard rfl ?_ ?_ <;> intro hc)
          | refine .lb ?_ | refine .ln ?_ | refine .ls ?_ | refine .pv ?_ | refine .ix ?_ | refine .pt ?_ | refine .pf ?_ | refine .bx ?_ | refine .al ?_ | refine .st ?_ | refine .ad ?_ | refine .sb ?_ | refine .mf ?_ | refine .cl ?_ | refine .cw ?_ | refine .ck ?_
          | refine A.index_s (j := 0) rfl rfl rfl rfl rfl (by assumption) ?_ | fail
        exact Fin.two rfl rfl (Weak.refl _)
      · have e2 : ((digs (s.drop 0) : Int) == 0) = false := beq_no c
        by_cases z : s[0] = 48
        · have e3 : ((s[0].toNat : Int) == 48) = true := by rw [z]; rfl
          rw [if_pos z] at hw2
          have hend := num2 s 1 hs (by omega)
          rw [hw2, if_neg (by omega)]
          repeat' first
            | (refine HCode.weaken hend ?_; exact ⟨rfl, rfl, rfl, trivial⟩)
            | refine .seq ?_ | refine .rg ?_ | refine .rd ?_ | refine .block ?_ | refine .scope ?_ | refine .skip ?_ | refine .label ?_ | refine .exit ?_ | refine .ret ?_
            | refine .ct ?_ | refine .cf ?_ | refine .cy ?_ | refine .cn ?_ | (refine .cond rfl ?_ ?_ <;> intro hc)
            | refine A.nil_seq ?_ | refine .nl ?_ | refine .dd ?_ | refine .ys ?_ | refine .no ?_ | (refine A.guard rfl ?_ ?_ <;> intro hc)
            | refine .lb ?_ | refine .ln ?_ | refine .ls ?_ | refine .pv ?_ | refine .ix ?_ | refine .pt ?_ | refine .pf ?_ | refine .bx ?_ | refine .al ?_ | refine .st ?_ | refine .ad ?_ | refine .sb ?_ | refine .mf ?_ | refine .cl ?_ | refine .cw ?_ | refine .ck ?_
            | refine A.index_s (j := 0) rfl rfl rfl rfl rfl (by assumption) ?_ | fail
        · have e3 : ((s[0].toNat : Int) == 48) = false := beq_no (fun h => z (UInt8.toNat_inj.1 (by
            have : s[0].toNat = 48 := by omega
            rw [this]; rfl)))
          rw [if_neg z] at hw2
          have hend := num2 s (0 + digs (s.drop 0)) hs (by omega)
          rw [hw2, if_neg (by omega)]
          repeat' first
            | (refine HCode.weaken hend ?_; exact ⟨rfl, rfl, rfl, trivial⟩)
            | refine .seq ?_ | refine .rg ?_ | refine .rd ?_ | refine .block ?_ | refine .scope ?_ | refine .skip ?_ | refine .label ?_ | refine .exit ?_ | refine .ret ?_
            | refine .ct ?_ | refine .cf ?_ | refine .cy ?_ | refine .cn ?_ | (refine .cond rfl ?_ ?_ <;> intro hc)
            | refine A.nil_seq ?_ | refine .nl ?_ | refine .dd ?_ | refine .ys ?_ | refine .no ?_ | (refine A.guard rfl ?_ ?_ <;> intro hc)
            | refine .lb ?_ | refine .ln ?_ | refine .ls ?_ | refine .pv ?_ | refine .ix ?_ | refine .pt ?_ | refine .pf ?_ | refine .bx ?_ | refine .al ?_ | refine .st ?_ | refine .ad ?_ | refine .sb ?_ | refine .mf ?_ | refine .cl ?_ | refine .cw ?_ | refine .ck ?_
            | refine A.index_s (j := 0) rfl rfl rfl rfl rfl (by assumption) ?_ | fail
theorem rNumber (s : Str) (hs : s.length ≤ 4611686018427387000) : PFn Tryz.prog 46 [.str s] (.int .i64 (numOf s)) := by
  refine AFn.plain rfl rfl (AFn.enter [2] Tryz.func46 rfl rfl rfl rfl rfl (by decide) ?_)
  have hn := rnumeral s hs
  unfold numOf
  by_cases c : (numK s).1 = s.length
  · have e : (((numK s).1 : Int) != (s.length : Int)) = false := by rw [c]; simp
    repeat' first
      | refine .seq ?_ | refine .rg ?_ | refine .rd ?_ | refine .block ?_ | refine .scope ?_ | refine .skip ?_ | refine .label ?_ | refine .exit ?_ | refine .ret ?_
      | refine .ct ?_ | refine .cf ?_ | refine .cy ?_ | refine .cn ?_ | (refine .cond rfl ?_ ?_ <;> intro hc)
      | refine A.nil_seq ?_ | refine .nl ?_ | refine .dd ?_ | refine .ys ?_ | refine .no ?_ | (refine A.guard rfl ?_ ?_ <;> intro hc)
      | refine .lb ?_ | refine .ln ?_ | refine .ls ?_ | refine .pv ?_ | refine .ix ?_ | refine .pt ?_ | refine .pf ?_ | refine .bx ?_ | refine .al ?_ | refine .st ?_ | refine .ad ?_ | refine .sb ?_ | refine .mf ?_ | refine .cl ?_ | refine .cw ?_ | refine .ck ?_ | fail
    refine Fin.ret1 rfl (Weak.eq ?_)
    rw [if_pos c]
  · have e : (((numK s).1 : Int) != (s.length : Int)) = true := by simp; omega
    repeat' first
      | refine .seq ?_ | refine .rg ?_ | refine .rd ?_ | refine .block ?_ | refine .scope ?_ | refine .skip ?_ | refine .label ?_ | refine .exit ?_ | refine .ret ?_
      | refine .ct ?_ | refine .cf ?_ | refine .cy ?_ | refine .cn ?_ | (refine .cond rfl ?_ ?_ <;> intro hc)
      | refine A.nil_seq ?_ | refine .nl ?_ | refine .dd ?_ | refine .ys ?_ | refine .no ?_ | (refine A.guard rfl ?_ ?_ <;> intro hc)
      | refine .lb ?_ | refine .ln ?_ | refine .ls ?_ | refine .pv ?_ | refine .ix ?_ | refine .pt ?_ | refine .pf ?_ | refine .bx ?_ | refine .al ?_ | refine .st ?_ | refine .ad ?_ | refine .sb ?_ | refine .mf ?_ | refine .cl ?_ | refine .cw ?_ | refine .ck ?_ | fail
    refine Fin.ret1 rfl (Weak.eq ?_)
    rw [if_neg c]
end Go.Proofs.YtijlmchfepjjkaaGreatDoor
