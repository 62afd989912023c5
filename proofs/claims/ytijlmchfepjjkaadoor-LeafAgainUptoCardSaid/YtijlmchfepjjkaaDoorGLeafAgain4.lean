/-
  The package wrap: Right, bit, Is, Item, List, Must, Bare.
  The package defs: scalar, Find, Kind, Leaf, Composite, Entry.
  The library's FormatInt at 10; its text is good.
  The package leaf: Out.
-/
import Derived.Test.YtijlmchfepjjkaaDoorGLeafAgain1
import Derived.Test.YtijlmchfepjjkaaDoorGLeafAgain2
import Derived.Test.YtijlmchfepjjkaaDoorGLeafAgain3
import Derived.Lib.ItoaNum
import Derived.Lib.AppendIntMem
import Derived.Lib.ValidLaws
import Derived.Test.YtijlmchfepjjkaaDoorAvTab
import Derived.Test.YtijlmchfepjjkaaDoorAvMap
import Derived.Test.YtijlmchfepjjkaaDoorShelfF
namespace Go.Proofs.YtijlmchfepjjkaaDoor
open Go Go.Av
set_option maxRecDepth 100000
set_option maxHeartbeats 8000000
set_option linter.unusedVariables false
set_option linter.unusedSimpArgs false
attribute [local irreducible] HCode AOps PFn AFn Av.Step TStep

theorem shr_musts {m l : Int} (h0 : 0 ≤ l) (h4 : l ≤ 4) : m.fdiv (2 ^ min (l + 1).toNat IntKind.i64.bits) = m / 2 ^ (l.toNat + 1) := by
  have e : min (l + 1).toNat IntKind.i64.bits = l.toNat + 1 := by
    show min (l + 1).toNat 64 = _
    omega
  rw [e, Int.fdiv_eq_ediv_of_nonneg _ (Int.le_of_lt (Int.pow_pos (by decide)))]
theorem div_zero_iff {m c : Int} (h : 0 ≤ m) (hc : 0 < c) : (m / c == 0) = decide (m < c) := by
  rw [Bool.eq_iff_iff, beq_iff_eq, decide_eq_true_eq]
  constructor
  · intro e
    have h1 := Int.emod_lt_of_pos m hc
    have h2 := Int.mul_ediv_add_emod m c
    rw [e] at h2
    omega
  · exact Int.ediv_eq_zero_of_lt h
theorem wRight (t : Typ) (hs : t.name.length ≤ 9223372036854775806) : PFn Tryd.prog 41 [t.enc] (.bool (rightT t)) := by
  have hn := lName t.name hs
  refine AFn.plain rfl rfl (AFn.enter [2] Tryd.func41 rfl rfl rfl rfl rfl (by decide) ?_)
  by_cases h1 : 0 ≤ t.lists
  · have e1 : decide (0 ≤ t.lists) = true := decide_eq_true h1
    by_cases h2 : t.lists ≤ 4
    · have e2 : decide (t.lists ≤ 4) = true := decide_eq_true h2
      by_cases h3 : 0 ≤ t.musts
      · have e3 : decide (0 ≤ t.musts) = true := decide_eq_true h3
        repeat' first
          | refine .br ?_
          | refine .seq ?_ | refine .rg ?_ | refine .rd ?_ | refine .block ?_ | refine .scope ?_ | refine .skip ?_ | refine .label ?_ | refine .exit ?_ | refine .ret ?_
          | refine .ct ?_ | refine .cf ?_ | refine .cy ?_ | refine .cn ?_ | (refine .cond rfl ?_ ?_ <;> intro hc)
          | refine A.nil_seq ?_ | refine .nl ?_ | refine .dd ?_ | refine .ys ?_ | refine .no ?_ | (refine A.guard rfl ?_ ?_ <;> intro hc)
          | refine .lb ?_ | refine .ln ?_ | refine .ls ?_ | refine .pv ?_ | refine .ix ?_ | refine .pt ?_ | refine .pf ?_ | refine .bx ?_ | refine .al ?_ | refine .st ?_ | refine .ad ?_ | refine .sb ?_ | refine .mf ?_ | refine .cl ?_ | refine .cw ?_ | refine .ck ?_
          | refine A.shr rfl rfl (by omega) (shr_musts h1 h2) ?_ | fail
        all_goals
          refine Fin.ret1 rfl (Weak.eq (congrArg AV.bool ?_))
          unfold rightT
          rw [e1, e2, e3]
          try rw [div_zero_iff h3 (Int.pow_pos (by decide))]
          simp_all
      · have e3 : decide (0 ≤ t.musts) = false := decide_eq_false h3
        repeat' first
          | refine .br ?_
          | refine .seq ?_ | refine .rg ?_ | refine .rd ?_ | refine .block ?_ | refine .scope ?_ | refine .skip ?_ | refine .label ?_ | refine .exit ?_ | refine .ret ?_
          | refine .ct ?_ | refine .cf ?_ | refine .cy ?_ | refine .cn ?_ | (refine .cond rfl ?_ ?_ <;> intro hc)
          | refine A.nil_seq ?_ | refine .nl ?_ | refine .dd ?_ | refine .ys ?_ | refine .no ?_ | (refine A.guard rfl ?_ ?_ <;> intro hc)
          | refine .lb ?_ | refine .ln ?_ | refine .ls ?_ | refine .pv ?_ | refine .ix ?_ | refine .pt ?_ | refine .pf ?_ | refine .bx ?_ | refine .al ?_ | refine .st ?_ | refine .ad ?_ | refine .sb ?_ | refine .mf ?_ | refine .cl ?_ | refine .cw ?_ | refine .ck ?_ | fail
        all_goals
          refine Fin.ret1 rfl (Weak.eq (congrArg AV.bool ?_))
          unfold rightT
          rw [e3]; simp_all
    · have e2 : decide (t.lists ≤ 4) = false := decide_eq_false h2
      repeat' first
        | refine .br ?_
        | refine .seq ?_ | refine .rg ?_ | refine .rd ?_ | refine .block ?_ | refine .scope ?_ | refine .skip ?_ | refine .label ?_ | refine .exit ?_ | refine .ret ?_
        | refine .ct ?_ | refine .cf ?_ | refine .cy ?_ | refine .cn ?_ | (refine .cond rfl ?_ ?_ <;> intro hc)
        | refine A.nil_seq ?_ | refine .nl ?_ | refine .dd ?_ | refine .ys ?_ | refine .no ?_ | (refine A.guard rfl ?_ ?_ <;> intro hc)
        | refine .lb ?_ | refine .ln ?_ | refine .ls ?_ | refine .pv ?_ | refine .ix ?_ | refine .pt ?_ | refine .pf ?_ | refine .bx ?_ | refine .al ?_ | refine .st ?_ | refine .ad ?_ | refine .sb ?_ | refine .mf ?_ | refine .cl ?_ | refine .cw ?_ | refine .ck ?_ | fail
      all_goals
        refine Fin.ret1 rfl (Weak.eq (congrArg AV.bool ?_))
        unfold rightT
        rw [e2]; simp_all
  · have e1 : decide (0 ≤ t.lists) = false := decide_eq_false h1
    repeat' first
      | refine .br ?_
      | refine .seq ?_ | refine .rg ?_ | refine .rd ?_ | refine .block ?_ | refine .scope ?_ | refine .skip ?_ | refine .label ?_ | refine .exit ?_ | refine .ret ?_
      | refine .ct ?_ | refine .cf ?_ | refine .cy ?_ | refine .cn ?_ | (refine .cond rfl ?_ ?_ <;> intro hc)
      | refine A.nil_seq ?_ | refine .nl ?_ | refine .dd ?_ | refine .ys ?_ | refine .no ?_ | (refine A.guard rfl ?_ ?_ <;> intro hc)
      | refine .lb ?_ | refine .ln ?_ | refine .ls ?_ | refine .pv ?_ | refine .ix ?_ | refine .pt ?_ | refine .pf ?_ | refine .bx ?_ | refine .al ?_ | refine .st ?_ | refine .ad ?_ | refine .sb ?_ | refine .mf ?_ | refine .cl ?_ | refine .cw ?_ | refine .ck ?_ | fail
    all_goals
      refine Fin.ret1 rfl (Weak.eq (congrArg AV.bool ?_))
      unfold rightT
      rw [e1]; simp_all
theorem and1 (m : Nat) : m &&& 1 = m % 2 := Nat.and_two_pow_sub_one_eq_mod m 1
theorem bit0 (t : Typ) (h0 : 0 ≤ t.musts) (h1 : t.musts < 9223372036854775808) : PFn Tryd.prog 87 [t.enc, .int .i64 0] (.bool (decide (t.musts % 2 = 1))) := by
  refine AFn.plain rfl rfl (AFn.enter [4] Tryd.func87 rfl rfl rfl rfl rfl (by decide) ?_)
  have e : t.musts.fdiv (2 ^ min (0 : Int).toNat IntKind.i64.bits) = t.musts := by
    rw [show (2 : Int) ^ min (0 : Int).toNat IntKind.i64.bits = 1 from rfl, Int.fdiv_eq_ediv_of_nonneg _ (by decide), Int.ediv_one]
  repeat' first
    | refine .br ?_
    | refine .seq ?_ | refine .rg ?_ | refine .rd ?_ | refine .block ?_ | refine .scope ?_ | refine .skip ?_ | refine .label ?_ | refine .exit ?_ | refine .ret ?_
    | refine .ct ?_ | refine .cf ?_ | refine .cy ?_ | refine .cn ?_ | (refine .cond rfl ?_ ?_ <;> intro hc)
    | refine A.nil_seq ?_ | refine .nl ?_ | refine .dd ?_ | refine .ys ?_ | refine .no ?_ | (refine A.guard rfl ?_ ?_ <;> intro hc)
    | refine .lb ?_ | refine .ln ?_ | refine .ls ?_ | refine .pv ?_ | refine .ix ?_ | refine .pt ?_ | refine .pf ?_ | refine .bx ?_ | refine .al ?_ | refine .st ?_ | refine .ad ?_ | refine .sb ?_ | refine .mf ?_ | refine .cl ?_ | refine .cw ?_ | refine .ck ?_
    | refine A.shr rfl rfl (by decide) e ?_ | refine A.band (m := t.musts.toNat) (n := 1) rfl rfl (by omega) rfl (by omega) (by decide) (and1 _) ?_ | fail
  refine Fin.ret1 rfl (Weak.eq (congrArg AV.bool ?_))
  rw [Bool.eq_iff_iff, beq_iff_eq, decide_eq_true_eq]
  omega
theorem pow_le32 {l : Int} (h : l ≤ 4) : (2 : Int) ^ (l.toNat + 1) ≤ 32 := by
  have h' : l.toNat ≤ 4 := by omega
  generalize l.toNat = n at h'
  match n, h' with
  | 0, _ => decide
  | 1, _ => decide
  | 2, _ => decide
  | 3, _ => decide
  | 4, _ => decide
theorem musts_lt {t : Typ} (h : rightT t = true) : t.musts < 32 := by
  obtain ⟨_, _, h3, _, h5⟩ := rightT_iff.1 h
  have := pow_le32 h3
  omega
theorem wIs (t : Typ) (hs : t.name.length ≤ 9223372036854775806) : PFn Tryd.prog 44 [t.enc] (.bool (isT t)) := by
  have hr := wRight t hs
  refine AFn.plain rfl rfl (AFn.enter [2] Tryd.func44 rfl rfl rfl rfl rfl (by decide) ?_)
  cases c : rightT t with
  | true =>
    rw [c] at hr
    have hb := bit0 t (rightT_iff.1 c).2.2.2.1 (by have := musts_lt c; omega)
    repeat' first
      | refine .br ?_
      | refine .seq ?_ | refine .rg ?_ | refine .rd ?_ | refine .block ?_ | refine .scope ?_ | refine .skip ?_ | refine .label ?_ | refine .exit ?_ | refine .ret ?_
      | refine .ct ?_ | refine .cf ?_ | refine .cy ?_ | refine .cn ?_ | (refine .cond rfl ?_ ?_ <;> intro hc)
      | refine A.nil_seq ?_ | refine .nl ?_ | refine .dd ?_ | refine .ys ?_ | refine .no ?_ | (refine A.guard rfl ?_ ?_ <;> intro hc)
      | refine .lb ?_ | refine .ln ?_ | refine .ls ?_ | refine .pv ?_ | refine .ix ?_ | refine .pt ?_ | refine .pf ?_ | refine .bx ?_ | refine .al ?_ | refine .st ?_ | refine .ad ?_ | refine .sb ?_ | refine .mf ?_ | refine .cl ?_ | refine .cw ?_ | refine .ck ?_ | fail
    refine Fin.ret1 rfl (Weak.eq (congrArg AV.bool ?_))
    unfold isT; rw [c]; rfl
  | false =>
    rw [c] at hr
    repeat' first
      | refine .br ?_
      | refine .seq ?_ | refine .rg ?_ | refine .rd ?_ | refine .block ?_ | refine .scope ?_ | refine .skip ?_ | refine .label ?_ | refine .exit ?_ | refine .ret ?_
      | refine .ct ?_ | refine .cf ?_ | refine .cy ?_ | refine .cn ?_ | (refine .cond rfl ?_ ?_ <;> intro hc)
      | refine A.nil_seq ?_ | refine .nl ?_ | refine .dd ?_ | refine .ys ?_ | refine .no ?_ | (refine A.guard rfl ?_ ?_ <;> intro hc)
      | refine .lb ?_ | refine .ln ?_ | refine .ls ?_ | refine .pv ?_ | refine .ix ?_ | refine .pt ?_ | refine .pf ?_ | refine .bx ?_ | refine .al ?_ | refine .st ?_ | refine .ad ?_ | refine .sb ?_ | refine .mf ?_ | refine .cl ?_ | refine .cw ?_ | refine .ck ?_ | fail
    refine Fin.ret1 rfl (Weak.eq (congrArg AV.bool ?_))
    unfold isT; rw [c]; rfl
theorem shr_one {m : Int} : m.fdiv (2 ^ min (1 : Int).toNat IntKind.i64.bits) = m / 2 := by
  rw [show (2 : Int) ^ min (1 : Int).toNat IntKind.i64.bits = 2 from rfl, Int.fdiv_eq_ediv_of_nonneg _ (by decide)]
theorem wItem (t : Typ) (hs : t.name.length ≤ 9223372036854775806) : PFn Tryd.prog 88 [t.enc] (.tup [(itemR t).1.enc, .bool (itemR t).2]) := by
  have hr := wRight t hs
  refine AFn.plain rfl rfl (AFn.enterR [.cell 2 60, .tmp 3] Tryd.func88 rfl rfl rfl rfl rfl ?_)
  unfold itemR
  cases c : rightT t with
  | true =>
    rw [c] at hr
    obtain ⟨_, q1, q2, q3, q4⟩ := rightT_iff.1 c
    by_cases h0 : t.lists = 0
    · have e0 : (t.lists == 0) = true := by simp [h0]
      rw [if_neg (fun h => h.2 h0)]
      repeat' first
        | refine .br ?_
        | refine .seq ?_ | refine .rg ?_ | refine .rd ?_ | refine .block ?_ | refine .scope ?_ | refine .skip ?_ | refine .label ?_ | refine .exit ?_ | refine .ret ?_
        | refine .ct ?_ | refine .cf ?_ | refine .cy ?_ | refine .cn ?_ | (refine .cond rfl ?_ ?_ <;> intro hc)
        | refine A.nil_seq ?_ | refine .nl ?_ | refine .dd ?_ | refine .ys ?_ | refine .no ?_ | (refine A.guard rfl ?_ ?_ <;> intro hc)
        | refine .lb ?_ | refine .ln ?_ | refine .ls ?_ | refine .pv ?_ | refine .ix ?_ | refine .pt ?_ | refine .pf ?_ | refine .bx ?_ | refine .al ?_ | refine .st ?_ | refine .ad ?_ | refine .sb ?_ | refine .mf ?_ | refine .cl ?_ | refine .cw ?_ | refine .ck ?_ | fail
      exact FinR.ret1 rfl (Weak.refl _)
    · have e0 : (t.lists == 0) = false := by simp [h0]
      rw [if_pos ⟨rfl, h0⟩]
      repeat' first
        | refine .br ?_
        | refine .seq ?_ | refine .rg ?_ | refine .rd ?_ | refine .block ?_ | refine .scope ?_ | refine .skip ?_ | refine .label ?_ | refine .exit ?_ | refine .ret ?_
        | refine .ct ?_ | refine .cf ?_ | refine .cy ?_ | refine .cn ?_ | (refine .cond rfl ?_ ?_ <;> intro hc)
        | refine A.nil_seq ?_ | refine .nl ?_ | refine .dd ?_ | refine .ys ?_ | refine .no ?_ | (refine A.guard rfl ?_ ?_ <;> intro hc)
        | refine .lb ?_ | refine .ln ?_ | refine .ls ?_ | refine .pv ?_ | refine .ix ?_ | refine .pt ?_ | refine .pf ?_ | refine .bx ?_ | refine .al ?_ | refine .st ?_ | refine .ad ?_ | refine .sb ?_ | refine .mf ?_ | refine .cl ?_ | refine .cw ?_ | refine .ck ?_
        | refine A.shr rfl rfl (by decide) shr_one ?_ | fail
      exact FinR.ret1 rfl (Weak.refl _)
  | false =>
    rw [c] at hr
    rw [if_neg (fun h => by cases h.1)]
    repeat' first
      | refine .br ?_
      | refine .seq ?_ | refine .rg ?_ | refine .rd ?_ | refine .block ?_ | refine .scope ?_ | refine .skip ?_ | refine .label ?_ | refine .exit ?_ | refine .ret ?_
      | refine .ct ?_ | refine .cf ?_ | refine .cy ?_ | refine .cn ?_ | (refine .cond rfl ?_ ?_ <;> intro hc)
      | refine A.nil_seq ?_ | refine .nl ?_ | refine .dd ?_ | refine .ys ?_ | refine .no ?_ | (refine A.guard rfl ?_ ?_ <;> intro hc)
      | refine .lb ?_ | refine .ln ?_ | refine .ls ?_ | refine .pv ?_ | refine .ix ?_ | refine .pt ?_ | refine .pf ?_ | refine .bx ?_ | refine .al ?_ | refine .st ?_ | refine .ad ?_ | refine .sb ?_ | refine .mf ?_ | refine .cl ?_ | refine .cw ?_ | refine .ck ?_ | fail
    exact FinR.ret1 rfl (Weak.refl _)
theorem shl_one {m : Int} (h0 : 0 ≤ m) (h1 : m < 1073741824) : IntKind.i64.wrap (m * 2 ^ min (1 : Int).toNat IntKind.i64.bits) = m * 2 := by
  rw [show (2 : Int) ^ min (1 : Int).toNat IntKind.i64.bits = 2 from rfl, IntWalk.i64_in _ (by omega)]
def listR (t : Typ) : Typ × Bool := if rightT t = true ∧ t.lists ≠ 4 then (listT t, true) else (zeroT, false)
theorem wList (t : Typ) (hs : t.name.length ≤ 9223372036854775806) : PFn Tryd.prog 39 [t.enc] (.tup [(listR t).1.enc, .bool (listR t).2]) := by
  have hr := wRight t hs
  refine AFn.plain rfl rfl (AFn.enterR [.cell 2 60, .tmp 3] Tryd.func39 rfl rfl rfl rfl rfl ?_)
  unfold listR
  cases c : rightT t with
  | true =>
    rw [c] at hr
    obtain ⟨_, q1, q2, q3, q4⟩ := rightT_iff.1 c
    have q5 := musts_lt c
    by_cases h0 : t.lists = 4
    · have e0 : (t.lists == 4) = true := by simp [h0]
      rw [if_neg (fun h => h.2 h0)]
      repeat' first
        | refine .br ?_
        | refine .seq ?_ | refine .rg ?_ | refine .rd ?_ | refine .block ?_ | refine .scope ?_ | refine .skip ?_ | refine .label ?_ | refine .exit ?_ | refine .ret ?_
        | refine .ct ?_ | refine .cf ?_ | refine .cy ?_ | refine .cn ?_ | (refine .cond rfl ?_ ?_ <;> intro hc)
        | refine A.nil_seq ?_ | refine .nl ?_ | refine .dd ?_ | refine .ys ?_ | refine .no ?_ | (refine A.guard rfl ?_ ?_ <;> intro hc)
        | refine .lb ?_ | refine .ln ?_ | refine .ls ?_ | refine .pv ?_ | refine .ix ?_ | refine .pt ?_ | refine .pf ?_ | refine .bx ?_ | refine .al ?_ | refine .st ?_ | refine .ad ?_ | refine .sb ?_ | refine .mf ?_ | refine .cl ?_ | refine .cw ?_ | refine .ck ?_ | fail
      exact FinR.ret1 rfl (Weak.refl _)
    · have e0 : (t.lists == 4) = false := by simp [h0]
      rw [if_pos ⟨rfl, h0⟩]
      repeat' first
        | refine .br ?_
        | refine .seq ?_ | refine .rg ?_ | refine .rd ?_ | refine .block ?_ | refine .scope ?_ | refine .skip ?_ | refine .label ?_ | refine .exit ?_ | refine .ret ?_
        | refine .ct ?_ | refine .cf ?_ | refine .cy ?_ | refine .cn ?_ | (refine .cond rfl ?_ ?_ <;> intro hc)
        | refine A.nil_seq ?_ | refine .nl ?_ | refine .dd ?_ | refine .ys ?_ | refine .no ?_ | (refine A.guard rfl ?_ ?_ <;> intro hc)
        | refine .lb ?_ | refine .ln ?_ | refine .ls ?_ | refine .pv ?_ | refine .ix ?_ | refine .pt ?_ | refine .pf ?_ | refine .bx ?_ | refine .al ?_ | refine .st ?_ | refine .ad ?_ | refine .sb ?_ | refine .mf ?_ | refine .cl ?_ | refine .cw ?_ | refine .ck ?_
        | refine A.shl rfl rfl (by decide) (shl_one q3 (by omega)) ?_ | fail
      exact FinR.ret1 rfl (Weak.refl _)
  | false =>
    rw [c] at hr
    rw [if_neg (fun h => by cases h.1)]
    repeat' first
      | refine .br ?_
      | refine .seq ?_ | refine .rg ?_ | refine .rd ?_ | refine .block ?_ | refine .scope ?_ | refine .skip ?_ | refine .label ?_ | refine .exit ?_ | refine .ret ?_
      | refine .ct ?_ | refine .cf ?_ | refine .cy ?_ | refine .cn ?_ | (refine .cond rfl ?_ ?_ <;> intro hc)
      | refine A.nil_seq ?_ | refine .nl ?_ | refine .dd ?_ | refine .ys ?_ | refine .no ?_ | (refine A.guard rfl ?_ ?_ <;> intro hc)
      | refine .lb ?_ | refine .ln ?_ | refine .ls ?_ | refine .pv ?_ | refine .ix ?_ | refine .pt ?_ | refine .pf ?_ | refine .bx ?_ | refine .al ?_ | refine .st ?_ | refine .ad ?_ | refine .sb ?_ | refine .mf ?_ | refine .cl ?_ | refine .cw ?_ | refine .ck ?_ | fail
    exact FinR.ret1 rfl (Weak.refl _)
theorem or1 (m : Nat) (h : m < 32) : m ||| 1 = if m % 2 = 1 then m else m + 1 := by
  have : ∀ m : Fin 32, m.val ||| 1 = if m.val % 2 = 1 then m.val else m.val + 1 := by decide +kernel
  exact this ⟨m, h⟩
theorem wMust (t : Typ) (hs : t.name.length ≤ 9223372036854775806) : PFn Tryd.prog 43 [t.enc] (mustT t).enc := by
  have hr := wRight t hs
  refine AFn.plain rfl rfl (AFn.enterR [.cell 2 60] Tryd.func43 rfl rfl rfl rfl rfl ?_)
  unfold mustT
  cases c : rightT t with
  | true =>
    rw [c] at hr
    obtain ⟨_, q1, q2, q3, q4⟩ := rightT_iff.1 c
    have q5 := musts_lt c
    rw [if_pos rfl]
    repeat' first
      | refine .seq ?_ | refine .rg ?_ | refine .rd ?_ | refine .block ?_ | refine .scope ?_ | refine .skip ?_ | refine .label ?_ | refine .exit ?_ | refine .ret ?_
      | refine .ct ?_ | refine .cf ?_ | refine .cy ?_ | refine .cn ?_ | (refine .cond rfl ?_ ?_ <;> intro hc)
      | refine A.nil_seq ?_ | refine .nl ?_ | refine .dd ?_ | refine .ys ?_ | refine .no ?_ | (refine A.guard rfl ?_ ?_ <;> intro hc)
      | refine .lb ?_ | refine .ln ?_ | refine .ls ?_ | refine .pv ?_ | refine .ix ?_ | refine .pt ?_ | refine .pf ?_ | refine .bx ?_ | refine .al ?_ | refine .st ?_ | refine .ad ?_ | refine .sb ?_ | refine .mf ?_ | refine .cl ?_ | refine .cw ?_ | refine .ck ?_
      | refine A.bor (m := t.musts.toNat) (n := 1) rfl rfl (by omega) rfl (by omega) (by decide) (or1 _ (by omega)) ?_ | fail
    refine FinR.ret1 rfl (Weak.eq ?_)
    unfold Typ.enc
    simp only [AV.agg.injEq, List.cons.injEq, AV.int.injEq, true_and, and_true]
    split <;> split <;> omega
  | false =>
    rw [c] at hr
    rw [if_neg (by decide)]
    repeat' first
      | refine .seq ?_ | refine .rg ?_ | refine .rd ?_ | refine .block ?_ | refine .scope ?_ | refine .skip ?_ | refine .label ?_ | refine .exit ?_ | refine .ret ?_
      | refine .ct ?_ | refine .cf ?_ | refine .cy ?_ | refine .cn ?_ | (refine .cond rfl ?_ ?_ <;> intro hc)
      | refine A.nil_seq ?_ | refine .nl ?_ | refine .dd ?_ | refine .ys ?_ | refine .no ?_ | (refine A.guard rfl ?_ ?_ <;> intro hc)
      | refine .lb ?_ | refine .ln ?_ | refine .ls ?_ | refine .pv ?_ | refine .ix ?_ | refine .pt ?_ | refine .pf ?_ | refine .bx ?_ | refine .al ?_ | refine .st ?_ | refine .ad ?_ | refine .sb ?_ | refine .mf ?_ | refine .cl ?_ | refine .cw ?_ | refine .ck ?_ | fail
    exact FinR.ret1 rfl (Weak.refl _)
theorem clr1 {m : Int} (h0 : 0 ≤ m) (h : m < 32) : IntKind.i64.wrap (((BitVec.ofInt IntKind.i64.bits m) &&& ~~~(BitVec.ofInt IntKind.i64.bits 1)).toNat : Int) = if m % 2 = 1 then m - 1 else m := by
  have : ∀ m : Fin 32, IntKind.i64.wrap (((BitVec.ofInt IntKind.i64.bits (m.val : Int)) &&& ~~~(BitVec.ofInt IntKind.i64.bits 1)).toNat : Int) = if (m.val : Int) % 2 = 1 then (m.val : Int) - 1 else (m.val : Int) := by decide +kernel
  have e := this ⟨m.toNat, by omega⟩
  simp only [Int.toNat_of_nonneg h0] at e
  exact e
theorem wBare (t : Typ) (hs : t.name.length ≤ 9223372036854775806) : PFn Tryd.prog 42 [t.enc] (bareT t).enc := by
  have hr := wRight t hs
  refine AFn.plain rfl rfl (AFn.enterR [.cell 2 60] Tryd.func42 rfl rfl rfl rfl rfl ?_)
  unfold bareT
  cases c : rightT t with
  | true =>
    rw [c] at hr
    obtain ⟨_, q1, q2, q3, q4⟩ := rightT_iff.1 c
    have q5 := musts_lt c
    rw [if_pos rfl]
    repeat' first
      | refine .seq ?_ | refine .rg ?_ | refine .rd ?_ | refine .block ?_ | refine .scope ?_ | refine .skip ?_ | refine .label ?_ | refine .exit ?_ | refine .ret ?_
      | refine .ct ?_ | refine .cf ?_ | refine .cy ?_ | refine .cn ?_ | (refine .cond rfl ?_ ?_ <;> intro hc)
      | refine A.nil_seq ?_ | refine .nl ?_ | refine .dd ?_ | refine .ys ?_ | refine .no ?_ | (refine A.guard rfl ?_ ?_ <;> intro hc)
      | refine .lb ?_ | refine .ln ?_ | refine .ls ?_ | refine .pv ?_ | refine .ix ?_ | refine .pt ?_ | refine .pf ?_ | refine .bx ?_ | refine .al ?_ | refine .st ?_ | refine .ad ?_ | refine .sb ?_ | refine .mf ?_ | refine .cl ?_ | refine .cw ?_ | refine .ck ?_
      | refine A.bclr rfl rfl (clr1 q3 q5) ?_ | fail
    exact FinR.ret1 rfl (Weak.refl _)
  | false =>
    rw [c] at hr
    rw [if_neg (by decide)]
    repeat' first
      | refine .seq ?_ | refine .rg ?_ | refine .rd ?_ | refine .block ?_ | refine .scope ?_ | refine .skip ?_ | refine .label ?_ | refine .exit ?_ | refine .ret ?_
      | refine .ct ?_ | refine .cf ?_ | refine .cy ?_ | refine .cn ?_ | (refine .cond rfl ?_ ?_ <;> intro hc)
      | refine A.nil_seq ?_ | refine .nl ?_ | refine .dd ?_ | refine .ys ?_ | refine .no ?_ | (refine A.guard rfl ?_ ?_ <;> intro hc)
      | refine .lb ?_ | refine .ln ?_ | refine .ls ?_ | refine .pv ?_ | refine .ix ?_ | refine .pt ?_ | refine .pf ?_ | refine .bx ?_ | refine .al ?_ | refine .st ?_ | refine .ad ?_ | refine .sb ?_ | refine .mf ?_ | refine .cl ?_ | refine .cw ?_ | refine .ck ?_ | fail
    exact FinR.ret1 rfl (Weak.refl _)
end Go.Proofs.YtijlmchfepjjkaaDoor
namespace Go.Proofs.YtijlmchfepjjkaaDoor
open Go Go.Av
set_option maxRecDepth 100000
set_option maxHeartbeats 8000000
set_option linter.unusedVariables false
set_option linter.unusedSimpArgs false
attribute [local irreducible] HCode AOps PFn AFn Av.Step TStep

theorem Dfn.size_pos (d : Dfn) : 1 ≤ d.size := by unfold Dfn.size; omega
theorem Par.size_pos (d : Par) : 1 ≤ d.size := by unfold Par.size; omega
theorem Fld.size_pos (d : Fld) : 1 ≤ d.size := by unfold Fld.size; omega
theorem Dirc.size_pos (d : Dirc) : 1 ≤ d.size := by unfold Dirc.size; omega
theorem Sch.len (s : Sch) : s.defs.length ≤ s.size := by
  have := sumSize_length Dfn.size_pos s.defs
  unfold Sch.size; omega
theorem Sch.dfn {s : Sch} {d : Dfn} (h : d ∈ s.defs) : d.size ≤ s.size := by
  have := sumSize_mem (size := Dfn.size) h
  unfold Sch.size; omega
theorem Dfn.lens (d : Dfn) : d.params.length ≤ d.size ∧ d.parts.length ≤ d.size ∧ d.faces.length ≤ d.size ∧ d.fields.length ≤ d.size ∧ d.name.length ≤ d.size := by
  have h1 := sumSize_length Par.size_pos d.params
  have h2 := sumSize_length Fld.size_pos d.fields
  have h3 := sumSize_length (size := fun x : Str => x.length + 1) (fun _ => by omega) d.parts
  have h4 := sumSize_length (size := fun x : Str => x.length + 1) (fun _ => by omega) d.faces
  unfold Dfn.size strsSize; omega
theorem Dfn.par {d : Dfn} {p : Par} (h : p ∈ d.params) : p.size ≤ d.size := by
  have := sumSize_mem (size := Par.size) h
  unfold Dfn.size; omega
theorem Par.lens (p : Par) : p.name.length ≤ p.size ∧ p.t.name.length ≤ p.size ∧ p.d.size ≤ p.size := by
  unfold Par.size Typ.size; omega

theorem dScalar (n : Str) : PFn Tryd.prog 102 [.str n] (.bool (scalarB n)) := by
  refine AFn.plain rfl rfl (AFn.enter [2] Tryd.func102 rfl rfl rfl rfl rfl (by decide) ?_)
  repeat' first
    | refine .seq ?_ | refine .rg ?_ | refine .rd ?_ | refine .block ?_ | refine .scope ?_ | refine .skip ?_ | refine .label ?_ | refine .exit ?_ | refine .ret ?_
    | refine .ct ?_ | refine .cf ?_ | refine .cy ?_ | refine .cn ?_ | (refine .cond rfl ?_ ?_ <;> intro hc)
    | refine A.nil_seq ?_ | refine .nl ?_ | refine .dd ?_ | refine .ys ?_ | refine .no ?_ | (refine A.guard rfl ?_ ?_ <;> intro hc)
    | refine .lb ?_ | refine .ln ?_ | refine .ls ?_ | refine .pv ?_ | refine .ix ?_ | refine .pt ?_ | refine .pf ?_ | refine .bx ?_ | refine .al ?_ | refine .st ?_ | refine .ad ?_ | refine .sb ?_ | refine .mf ?_ | refine .cl ?_ | refine .cw ?_ | refine .ck ?_ | fail
  all_goals
    refine Fin.ret1 rfl (Weak.eq (congrArg AV.bool ?_))
    unfold scalarB sInt sString sBoolean sID
    simp_all
theorem weak_dfn {k : Int} {n : Str} {t1 t2 t3 t4 : Tk} : Weak (.agg [.int .i64 k, .str n, .slice [] t1, .slice [] t2, .slice [] t3, .slice [] t4]) (Dfn.enc ⟨k, n, [], [], [], []⟩) :=
  Weak.agg (WeakL.cons (Weak.refl _) (WeakL.cons (Weak.refl _) (WeakL.cons (Weak.no (WeakL.refl _)) (WeakL.cons (Weak.no (WeakL.refl _)) (WeakL.cons (Weak.no (WeakL.refl _)) (WeakL.cons (Weak.no (WeakL.refl _)) (WeakL.refl _)))))))
theorem find_drop {α : Type} {p : α → Bool} {l : List α} {k : Nat} (h : k < l.length) : (l.drop k).find? p = if p l[k] = true then some l[k] else (l.drop (k + 1)).find? p := by
  rw [List.drop_eq_getElem_cons h, List.find?_cons]
  cases p l[k] <;> rfl
theorem dFind (s : Sch) (name : Str) (hs : s.size ≤ 2097152) : PFn Tryd.prog 63 [s.enc, .str name] (.tup [(findR s name).1.enc, .bool (findR s name).2]) := by
  have hsc := dScalar name
  have hl := s.len
  refine AFn.plain (by simp [AV.closed, AV.closedL, Dfn.closed]) (by simp [AV.closed, AV.closedL, Sch.closed]) (AFn.enterR [.cell 4 80, .tmp 5] Tryd.func63 rfl rfl rfl rfl rfl ?_)
  cases c : scalarB name with
  | true =>
    rw [c] at hsc
    repeat' first
      | refine .br ?_
      | refine .seq ?_ | refine .rg ?_ | refine .rd ?_ | refine .block ?_ | refine .scope ?_ | refine .skip ?_ | refine .label ?_ | refine .exit ?_ | refine .ret ?_
      | refine .ct ?_ | refine .cf ?_ | refine .cy ?_ | refine .cn ?_ | (refine .cond rfl ?_ ?_ <;> intro hc)
      | refine A.nil_seq ?_ | refine .nl ?_ | refine .dd ?_ | refine .ys ?_ | refine .no ?_ | (refine A.guard rfl ?_ ?_ <;> intro hc)
      | refine .lb ?_ | refine .ln ?_ | refine .ls ?_ | refine .pv ?_ | refine .ix ?_ | refine .pt ?_ | refine .pf ?_ | refine .bx ?_ | refine .al ?_ | refine .st ?_ | refine .ad ?_ | refine .sb ?_ | refine .mf ?_ | refine .cl ?_ | refine .cw ?_ | refine .ck ?_ | fail
    refine FinR.ret1 rfl ?_
    rw [findR, findO, if_pos c]
    exact Weak.tup (WeakL.cons weak_dfn (WeakL.refl _))
  | false =>
    rw [c] at hsc
    repeat' first
      | refine .br ?_
      | refine .seq ?_ | refine .rg ?_ | refine .rd ?_ | refine .block ?_ | refine .scope ?_ | refine .skip ?_ | refine .label ?_ | refine .exit ?_ | refine .ret ?_
      | refine .ct ?_ | refine .cf ?_ | refine .cy ?_ | refine .cn ?_ | (refine .cond rfl ?_ ?_ <;> intro hc)
      | refine A.nil_seq ?_ | refine .nl ?_ | refine .dd ?_ | refine .ys ?_ | refine .no ?_ | (refine A.guard rfl ?_ ?_ <;> intro hc)
      | refine .lb ?_ | refine .ln ?_ | refine .ls ?_ | refine .pv ?_ | refine .ix ?_ | refine .pt ?_ | refine .pf ?_ | refine .bx ?_ | refine .al ?_ | refine .st ?_ | refine .ad ?_ | refine .sb ?_ | refine .mf ?_ | refine .cl ?_ | refine .cw ?_ | refine .ck ?_ | fail
    refine HCode.forK s.defs.length (fun k => [(15, .int .i64 k), (14, .int .i64 s.defs.length), (13, .slice (s.defs.map Dfn.enc) .no), (1, .str name), (4, .ptr 0 0)])
      (fun _ => ⟨[.cells [.int .i64 0, .str [], .slice [] .nil, .slice [] .nil, .slice [] .nil, .slice [] .nil]], []⟩) (fun k => findO s name = (s.defs.drop k).find? (fun d => d.name == name))
      ⟨rfl, rfl, rfl, rfl, rfl, trivial⟩ rfl (by rw [findO, if_neg (by rw [c]; decide)]; rfl) fun k hk hp => ?_
    by_cases h1 : k < s.defs.length
    · have d1 : decide ((k : Int) < (s.defs.length : Int)) = true := by simp [h1]
      have x1 := map_get' (f := Dfn.enc) h1
      have hd := find_drop (p := fun d : Dfn => d.name == name) h1
      repeat' first
        | refine .lb ?_
        | refine .seq ?_ | refine .rg ?_ | refine .rd ?_ | refine .block ?_ | refine .scope ?_ | refine .skip ?_ | refine .label ?_ | refine .exit ?_ | refine .ret ?_
        | refine .ct ?_ | refine .cf ?_ | refine .cy ?_ | refine .cn ?_ | (refine .cond rfl ?_ ?_ <;> intro hc)
        | refine A.nil_seq ?_ | refine .nl ?_ | refine .dd ?_ | refine .ys ?_ | refine .no ?_ | (refine A.guard rfl ?_ ?_ <;> intro hc)
        | refine .lb ?_ | refine .ln ?_ | refine .ls ?_ | refine .pv ?_ | refine .ix ?_ | refine .pt ?_ | refine .pf ?_ | refine .bx ?_ | refine .al ?_ | refine .st ?_ | refine .ad ?_ | refine .sb ?_ | refine .mf ?_ | refine .cl ?_ | refine .cw ?_ | refine .ck ?_ | fail
      · refine FinR.ret1 rfl (Weak.eq ?_)
        rw [findR, hp, hd, if_pos hc]; rfl
      · exact ⟨h1, ⟨rfl, rfl, rfl, rfl, rfl, trivial⟩, by simp [belowS, AV.low], rfl, rfl, by rw [hp, hd, if_neg (by simp [hc])]⟩
    · have d1 : decide ((k : Int) < (s.defs.length : Int)) = false := by simp; omega
      repeat' first
        | refine .seq ?_ | refine .rg ?_ | refine .rd ?_ | refine .block ?_ | refine .scope ?_ | refine .skip ?_ | refine .label ?_ | refine .exit ?_ | refine .ret ?_
        | refine .ct ?_ | refine .cf ?_ | refine .cy ?_ | refine .cn ?_ | (refine .cond rfl ?_ ?_ <;> intro hc)
        | refine A.nil_seq ?_ | refine .nl ?_ | refine .dd ?_ | refine .ys ?_ | refine .no ?_ | (refine A.guard rfl ?_ ?_ <;> intro hc)
        | refine .lb ?_ | refine .ln ?_ | refine .ls ?_ | refine .pv ?_ | refine .ix ?_ | refine .pt ?_ | refine .pf ?_ | refine .bx ?_ | refine .al ?_ | refine .st ?_ | refine .ad ?_ | refine .sb ?_ | refine .mf ?_ | refine .cl ?_ | refine .cw ?_ | refine .ck ?_ | fail
      refine FinR.ret1 rfl ?_
      rw [findR, hp, List.drop_eq_nil_of_le (by omega)]
      exact Weak.tup (WeakL.cons weak_dfn (WeakL.refl _))
theorem findR_in (s : Sch) (name : Str) : (findR s name).1 ∈ s.defs ∨ (findR s name).1 = ⟨0, name, [], [], [], []⟩ ∨ (findR s name).1 = zeroD := by
  unfold findR findO
  split
  · rename_i d hd
    split at hd
    · cases hd; exact .inr (.inl rfl)
    · exact .inl (List.mem_of_find?_eq_some hd)
  · exact .inr (.inr rfl)
theorem findR_size {s : Sch} {name : Str} (h : s.size ≤ 2097152) : (findR s name).1.params.length ≤ 2097152 ∧ (findR s name).1.parts.length ≤ 2097152 ∧ (findR s name).1.faces.length ≤ 2097152 ∧ (findR s name).1.fields.length ≤ 2097152 ∧ ∀ p ∈ (findR s name).1.params, p.size ≤ 2097152 := by
  rcases findR_in s name with h1 | h1 | h1
  · have h2 := Sch.dfn h1
    have h3 := Dfn.lens (findR s name).1
    exact ⟨by omega, by omega, by omega, by omega, fun p hp => by have := Dfn.par hp; omega⟩
  · rw [h1]; exact ⟨by simp, by simp, by simp, by simp, by simp⟩
  · rw [h1]; exact ⟨by simp [zeroD], by simp [zeroD], by simp [zeroD], by simp [zeroD], by simp [zeroD]⟩
theorem dKind (s : Sch) (name : Str) (ks : List Int) (hs : s.size ≤ 2097152) (hk : ks.length ≤ 2097152) : PFn Tryd.prog 70 [s.enc, .str name, .slice (ks.map (AV.int .i64)) .no] (.bool (kindB s name ks)) := by
  have hf := dFind s name hs
  have hc := sContainsInt ks (findR s name).1.kind (by omega)
  refine AFn.plain rfl (by simp [AV.closed, AV.closedL, Sch.closed, int_closedL]) (AFn.enter [6] Tryd.func70 rfl rfl rfl rfl rfl (by decide) ?_)
  unfold kindB
  repeat' first
    | refine .br ?_
    | refine .seq ?_ | refine .rg ?_ | refine .rd ?_ | refine .block ?_ | refine .scope ?_ | refine .skip ?_ | refine .label ?_ | refine .exit ?_ | refine .ret ?_
    | refine .ct ?_ | refine .cf ?_ | refine .cy ?_ | refine .cn ?_ | (refine .cond rfl ?_ ?_ <;> intro hc)
    | refine A.nil_seq ?_ | refine .nl ?_ | refine .dd ?_ | refine .ys ?_ | refine .no ?_ | (refine A.guard rfl ?_ ?_ <;> intro hc)
    | refine .lb ?_ | refine .ln ?_ | refine .ls ?_ | refine .pv ?_ | refine .ix ?_ | refine .pt ?_ | refine .pf ?_ | refine .bx ?_ | refine .al ?_ | refine .st ?_ | refine .ad ?_ | refine .sb ?_ | refine .mf ?_ | refine .cl ?_ | refine .cw ?_ | refine .ck ?_ | fail
  all_goals
    refine Fin.ret1 rfl (Weak.eq (congrArg AV.bool ?_))
    simp_all
theorem dLeaf (s : Sch) (name : Str) (hs : s.size ≤ 2097152) : PFn Tryd.prog 20 [s.enc, .str name] (.bool (leafB s name)) := by
  have hk := dKind s name [0, 4] hs (by decide)
  refine AFn.plain rfl (by simp [AV.closed, AV.closedL, Sch.closed]) (AFn.enter [4] Tryd.func20 rfl rfl rfl rfl rfl (by decide) ?_)
  repeat' first
    | refine .br ?_
    | refine .seq ?_ | refine .rg ?_ | refine .rd ?_ | refine .block ?_ | refine .scope ?_ | refine .skip ?_ | refine .label ?_ | refine .exit ?_ | refine .ret ?_
    | refine .ct ?_ | refine .cf ?_ | refine .cy ?_ | refine .cn ?_ | (refine .cond rfl ?_ ?_ <;> intro hc)
    | refine A.nil_seq ?_ | refine .nl ?_ | refine .dd ?_ | refine .ys ?_ | refine .no ?_ | (refine A.guard rfl ?_ ?_ <;> intro hc)
    | refine .lb ?_ | refine .ln ?_ | refine .ls ?_ | refine .pv ?_ | refine .ix ?_ | refine .pt ?_ | refine .pf ?_ | refine .bx ?_ | refine .al ?_ | refine .st ?_ | refine .ad ?_ | refine .sb ?_ | refine .mf ?_ | refine .cl ?_ | refine .cw ?_ | refine .ck ?_ | fail
  exact Fin.ret1 rfl (Weak.refl _)
end Go.Proofs.YtijlmchfepjjkaaDoor
namespace Go.Proofs.YtijlmchfepjjkaaDoor
open Go Go.Av
set_option maxRecDepth 100000
set_option linter.unusedVariables false
set_option linter.unusedSimpArgs false

theorem tab_is {w : World} {im : Nat → Nat → Prop} (hgl : GlobOk im w) : Lib.TabIs Tryd.prog w "internal/strconv.uint64pow10" .u64 Lib.pow10Tab := by
  have h0 := GlobOk.rep (g := ⟨[], [], im⟩) hgl (p := (2, .agg (Lib.pow10Tab.map (AV.int .u64)))) (.tail _ (.tail _ (.head _)))
  have hn := (hgl.2 (2, 20) (.head _)).2
  have hc := fun i z hz => tab_cells h0 i z hz
  unfold Lib.TabIs World.var?
  rw [show Tryd.prog.globalNamed "internal/strconv.uint64pow10" = some 2 by kernel_rfl, Option.bind_some]
  have c0 := hc 0 1 (by decide)
  unfold World.cell? at c0 hn hc
  dsimp only at c0 hn hc
  split at c0
  case h_2 => cases c0
  case h_1 cs e fz hh =>
    rw [hh] at hn hc
    simp only [Option.isSome_none, Bool.false_eq_true, if_false] at hn hc
    rw [hh]
    refine congrArg some (Array.ext_getElem? fun i => ?_)
    simp only [List.getElem?_toArray, List.getElem?_map, Array.getElem?_toList]
    by_cases hi : i < 20
    · have hl : i < Lib.pow10Tab.length := by rw [Lib.pow10Tab_length]; exact hi
      rw [hc i Lib.pow10Tab[i] (List.getElem?_eq_getElem hl), List.getElem?_eq_getElem hl]; rfl
    · rw [List.getElem?_eq_none (by rw [Lib.pow10Tab_length]; omega), Array.getElem?_eq_none (by have := Array.getElem?_eq_none_iff.1 hn; omega)]; rfl
theorem formatInt (n : Int) (h0 : -9223372036854775808 ≤ n) (h1 : n ≤ 9223372036854775807) : PFn Tryd.prog 65 [.int .i64 n, .int .i64 10] (.str (Lib.itoa n)) := by
  refine PFn.ofBelow ⟨_, Tryd.func65, rfl, rfl⟩ rfl (fun im w vals him hgl hl => ?_)
  obtain ⟨v, rest, e, hv, v2, rest2, e2, hv2, hr⟩ := hl
  have hv' : v = .int .i64 n := hv
  have hv2' : v2 = .int .i64 10 := hv2
  have hr' : rest2 = [] := hr
  subst hv'; subst e2; subst hv2'; subst hr'
  obtain rfl : vals = #[.int .i64 n, .int .i64 10] := by cases vals; simp_all
  refine (Tryd.strconv_FormatInt_10 n h0 h1 w (tab_is hgl)).mono ?_
  rintro e w' ⟨rfl, k, os, rfl⟩
  exact ⟨⟨_, rfl, rfl⟩, Lib.below_grow _ w (Nat.le_refl _) k os⟩
theorem decDigits_small (u : Nat) : ∀ c ∈ Lib.decDigits u, c.toNat < 128 := by
  rw [Lib.decDigits_eq]
  intro c hc
  obtain ⟨t, _, rfl⟩ := List.mem_map.1 hc
  unfold Lib.dg
  have : u / 10 ^ (Lib.nDigits u - 1 - t) % 10 < 10 := Nat.mod_lt _ (by decide)
  rw [UInt8.toNat_ofNat']
  omega
theorem good_ascii (l : Str) (h : ∀ c ∈ l, c.toNat < 128) : good l = true := by
  unfold good
  rw [Lib.validD_ascii l.length l (fun b hb => h b (List.mem_of_mem_take hb)), List.drop_length]; rfl
theorem good_itoa (n : Int) : good (Lib.itoa n) = true := by
  refine good_ascii _ fun c hc => ?_
  unfold Lib.itoa at hc
  split at hc
  · rcases List.mem_cons.1 hc with rfl | hc
    · decide
    · exact decDigits_small _ c hc
  · exact decDigits_small _ c hc
theorem nDigits_le (u k : Nat) (h : u < 10 ^ (k + 1)) : Lib.nDigits u ≤ k + 1 := by
  induction k generalizing u with
  | zero => rw [Lib.nDigits_small (by simpa using h)]; exact Nat.le_refl _
  | succ k ih =>
    by_cases c : u < 10
    · rw [Lib.nDigits_small c]; omega
    · rw [Lib.nDigits_big c]
      have := ih (u / 10) (by rw [Nat.pow_succ] at h; omega)
      omega
theorem itoa_len (n : Int) (h0 : -9223372036854775808 ≤ n) (h1 : n ≤ 9223372036854775807) : (Lib.itoa n).length ≤ 21 := by
  unfold Lib.itoa
  split
  · rw [List.length_cons, Lib.decDigits_length]
    have := nDigits_le n.natAbs 19 (by omega)
    omega
  · rw [Lib.decDigits_length]
    have := nDigits_le n.toNat 19 (by omega)
    omega
end Go.Proofs.YtijlmchfepjjkaaDoor
namespace Go.Proofs.YtijlmchfepjjkaaDoor
open Go Go.Av
set_option maxRecDepth 100000
set_option maxHeartbeats 16000000
set_option linter.unusedVariables false
set_option linter.unusedSimpArgs false
attribute [local irreducible] HCode AOps PFn AFn Av.Step TStep

/-- What a field of a scalar type answers, and the error. -/
def scalOut (name : Str) (v : Val) : Val × Int :=
  if name = sInt then (if v.kind = 2 then (if v.n < -2147483648 ∨ 2147483647 < v.n then (val0, 8) else (v, 0)) else (val0, 7))
  else if name = sBoolean then (if v.kind = 1 then (v, 0) else (val0, 7))
  else if name = sID ∧ v.kind = 2 then (textV (Lib.itoa v.n), 0)
  else if name = sID ∨ name = sString then (if v.kind = 4 then (v, 0) else (val0, 7))
  else (val0, 7)
def outR (s : Sch) (name : Str) (v : Val) : Val × Int :=
  if allV good v = false ∨ leafB s name = false then (val0, 1)
  else if (findR s name).1.kind = 4 then (if v.kind = 4 ∧ v.s ∈ (findR s name).1.parts then (v, 0) else (val0, 7))
  else scalOut name v
theorem lOut (s : Sch) (name : Str) (v : Val) (hs : s.size ≤ 2097152) (hv : v.size ≤ 2097152) (h0 : -9223372036854775808 ≤ v.n) (h1 : v.n ≤ 9223372036854775807) :
    PFn Tryd.prog 17 [s.enc, .str name, v.enc] (.tup [(outR s name v).1.enc, .int .i64 (outR s name v).2]) := by
  have hg := vGood v hv
  have hl := dLeaf s name hs
  have hf := dFind s name hs
  have hsz := findR_size (name := name) hs
  have hi := formatInt v.n h0 h1
  have ht := text (Lib.itoa v.n)
  refine AFn.plain (by simp [AV.closed, AV.closedL, Val.closed]) (by simp [AV.closed, AV.closedL, Sch.closed, Val.closed]) (AFn.enterR [.cell 6 28, .tmp 7] Tryd.func17 rfl rfl rfl rfl rfl ?_)
  unfold outR
  cases c1 : allV good v with
  | false =>
    rw [c1] at hg
    rw [if_pos (.inl rfl)]
    repeat' first
      | refine .br ?_
      | refine .seq ?_ | refine .rg ?_ | refine .rd ?_ | refine .block ?_ | refine .scope ?_ | refine .skip ?_ | refine .label ?_ | refine .exit ?_ | refine .ret ?_
      | refine .ct ?_ | refine .cf ?_ | refine .cy ?_ | refine .cn ?_ | (refine .cond rfl ?_ ?_ <;> intro hc)
      | refine A.nil_seq ?_ | refine .nl ?_ | refine .dd ?_ | refine .ys ?_ | refine .no ?_ | (refine A.guard rfl ?_ ?_ <;> intro hc)
      | refine .lb ?_ | refine .ln ?_ | refine .ls ?_ | refine .pv ?_ | refine .ix ?_ | refine .pt ?_ | refine .pf ?_ | refine .bx ?_ | refine .al ?_ | refine .st ?_ | refine .ad ?_ | refine .sb ?_ | refine .mf ?_ | refine .cl ?_ | refine .cw ?_ | refine .ck ?_ | fail
    exact FinR.ret1 rfl (Weak.tup (WeakL.cons weak_flatV (WeakL.refl _)))
  | true =>
    rw [c1] at hg
    cases c2 : leafB s name with
    | false =>
      rw [c2] at hl
      rw [if_pos (.inr rfl)]
      repeat' first
        | refine .br ?_
        | refine .seq ?_ | refine .rg ?_ | refine .rd ?_ | refine .block ?_ | refine .scope ?_ | refine .skip ?_ | refine .label ?_ | refine .exit ?_ | refine .ret ?_
        | refine .ct ?_ | refine .cf ?_ | refine .cy ?_ | refine .cn ?_ | (refine .cond rfl ?_ ?_ <;> intro hc)
        | refine A.nil_seq ?_ | refine .nl ?_ | refine .dd ?_ | refine .ys ?_ | refine .no ?_ | (refine A.guard rfl ?_ ?_ <;> intro hc)
        | refine .lb ?_ | refine .ln ?_ | refine .ls ?_ | refine .pv ?_ | refine .ix ?_ | refine .pt ?_ | refine .pf ?_ | refine .bx ?_ | refine .al ?_ | refine .st ?_ | refine .ad ?_ | refine .sb ?_ | refine .mf ?_ | refine .cl ?_ | refine .cw ?_ | refine .ck ?_ | fail
      exact FinR.ret1 rfl (Weak.tup (WeakL.cons weak_flatV (WeakL.refl _)))
    | true =>
      rw [c2] at hl
      rw [if_neg (by simp)]
      generalize findR s name = fr at hf hsz
      obtain ⟨d, ok⟩ := fr
      simp only at hf hsz ⊢
      have hc := sContainsStr d.parts v.s (by omega)
      by_cases d4 : d.kind = 4
      · have e4 : (d.kind == 4) = true := by simp [d4]
        rw [if_pos d4]
        by_cases k4 : v.kind = 4
        · have q4 : (v.kind == 4) = true := by simp [k4]
          have q4' : (!(v.kind == 4)) = false := by simp [k4]
          by_cases hm : v.s ∈ d.parts
          · rw [decide_eq_true hm] at hc
            rw [if_pos ⟨k4, hm⟩]
            repeat' first
              | refine .br ?_
              | refine .seq ?_ | refine .rg ?_ | refine .rd ?_ | refine .block ?_ | refine .scope ?_ | refine .skip ?_ | refine .label ?_ | refine .exit ?_ | refine .ret ?_
              | refine .ct ?_ | refine .cf ?_ | refine .cy ?_ | refine .cn ?_ | (refine .cond rfl ?_ ?_ <;> intro hc)
              | refine A.nil_seq ?_ | refine .nl ?_ | refine .dd ?_ | refine .ys ?_ | refine .no ?_ | (refine A.guard rfl ?_ ?_ <;> intro hc)
              | refine .lb ?_ | refine .ln ?_ | refine .ls ?_ | refine .pv ?_ | refine .ix ?_ | refine .pt ?_ | refine .pf ?_ | refine .bx ?_ | refine .al ?_ | refine .st ?_ | refine .ad ?_ | refine .sb ?_ | refine .mf ?_ | refine .cl ?_ | refine .cw ?_ | refine .ck ?_ | fail
            exact FinR.ret1 rfl (Weak.refl _)
          · rw [decide_eq_false hm] at hc
            rw [if_neg (fun h => hm h.2)]
            repeat' first
              | refine .br ?_
              | refine .seq ?_ | refine .rg ?_ | refine .rd ?_ | refine .block ?_ | refine .scope ?_ | refine .skip ?_ | refine .label ?_ | refine .exit ?_ | refine .ret ?_
              | refine .ct ?_ | refine .cf ?_ | refine .cy ?_ | refine .cn ?_ | (refine .cond rfl ?_ ?_ <;> intro hc)
              | refine A.nil_seq ?_ | refine .nl ?_ | refine .dd ?_ | refine .ys ?_ | refine .no ?_ | (refine A.guard rfl ?_ ?_ <;> intro hc)
              | refine .lb ?_ | refine .ln ?_ | refine .ls ?_ | refine .pv ?_ | refine .ix ?_ | refine .pt ?_ | refine .pf ?_ | refine .bx ?_ | refine .al ?_ | refine .st ?_ | refine .ad ?_ | refine .sb ?_ | refine .mf ?_ | refine .cl ?_ | refine .cw ?_ | refine .ck ?_ | fail
            exact FinR.ret1 rfl (Weak.tup (WeakL.cons weak_flatV (WeakL.refl _)))
        · have q4 : (v.kind == 4) = false := by simp [k4]
          have q4' : (!(v.kind == 4)) = true := by simp [k4]
          rw [if_neg (fun h => k4 h.1)]
          repeat' first
            | refine .br ?_
            | refine .seq ?_ | refine .rg ?_ | refine .rd ?_ | refine .block ?_ | refine .scope ?_ | refine .skip ?_ | refine .label ?_ | refine .exit ?_ | refine .ret ?_
            | refine .ct ?_ | refine .cf ?_ | refine .cy ?_ | refine .cn ?_ | (refine .cond rfl ?_ ?_ <;> intro hc)
            | refine A.nil_seq ?_ | refine .nl ?_ | refine .dd ?_ | refine .ys ?_ | refine .no ?_ | (refine A.guard rfl ?_ ?_ <;> intro hc)
            | refine .lb ?_ | refine .ln ?_ | refine .ls ?_ | refine .pv ?_ | refine .ix ?_ | refine .pt ?_ | refine .pf ?_ | refine .bx ?_ | refine .al ?_ | refine .st ?_ | refine .ad ?_ | refine .sb ?_ | refine .mf ?_ | refine .cl ?_ | refine .cw ?_ | refine .ck ?_ | fail
          exact FinR.ret1 rfl (Weak.tup (WeakL.cons weak_flatV (WeakL.refl _)))
      · have e4 : (d.kind == 4) = false := by simp [d4]
        rw [if_neg d4]
        unfold scalOut
        by_cases n1 : name = sInt
        · have b1 : (name == [73, 110, 116]) = true := by rw [n1]; rfl
          rw [if_pos n1]
          by_cases k2 : v.kind = 2
          · have q2 : (v.kind == 2) = true := by simp [k2]
            have q2' : (!(v.kind == 2)) = false := by simp [k2]
            rw [if_pos k2]
            by_cases hr : v.n < -2147483648 ∨ 2147483647 < v.n
            · rw [if_pos hr]
              rcases hr with hr | hr
              · have r1 : decide (v.n < -2147483648) = true := decide_eq_true hr
                repeat' first
                  | refine .br ?_
                  | refine .seq ?_ | refine .rg ?_ | refine .rd ?_ | refine .block ?_ | refine .scope ?_ | refine .skip ?_ | refine .label ?_ | refine .exit ?_ | refine .ret ?_
                  | refine .ct ?_ | refine .cf ?_ | refine .cy ?_ | refine .cn ?_ | (refine .cond rfl ?_ ?_ <;> intro hc)
                  | refine A.nil_seq ?_ | refine .nl ?_ | refine .dd ?_ | refine .ys ?_ | refine .no ?_ | (refine A.guard rfl ?_ ?_ <;> intro hc)
                  | refine .lb ?_ | refine .ln ?_ | refine .ls ?_ | refine .pv ?_ | refine .ix ?_ | refine .pt ?_ | refine .pf ?_ | refine .bx ?_ | refine .al ?_ | refine .st ?_ | refine .ad ?_ | refine .sb ?_ | refine .mf ?_ | refine .cl ?_ | refine .cw ?_ | refine .ck ?_ | fail
                exact FinR.ret1 rfl (Weak.tup (WeakL.cons weak_flatV (WeakL.refl _)))
              · have r1 : decide (v.n < -2147483648) = false := decide_eq_false (by omega)
                have r2 : decide (2147483647 < v.n) = true := decide_eq_true hr
                repeat' first
                  | refine .br ?_
                  | refine .seq ?_ | refine .rg ?_ | refine .rd ?_ | refine .block ?_ | refine .scope ?_ | refine .skip ?_ | refine .label ?_ | refine .exit ?_ | refine .ret ?_
                  | refine .ct ?_ | refine .cf ?_ | refine .cy ?_ | refine .cn ?_ | (refine .cond rfl ?_ ?_ <;> intro hc)
                  | refine A.nil_seq ?_ | refine .nl ?_ | refine .dd ?_ | refine .ys ?_ | refine .no ?_ | (refine A.guard rfl ?_ ?_ <;> intro hc)
                  | refine .lb ?_ | refine .ln ?_ | refine .ls ?_ | refine .pv ?_ | refine .ix ?_ | refine .pt ?_ | refine .pf ?_ | refine .bx ?_ | refine .al ?_ | refine .st ?_ | refine .ad ?_ | refine .sb ?_ | refine .mf ?_ | refine .cl ?_ | refine .cw ?_ | refine .ck ?_ | fail
                exact FinR.ret1 rfl (Weak.tup (WeakL.cons weak_flatV (WeakL.refl _)))
            · have r1 : decide (v.n < -2147483648) = false := decide_eq_false (by omega)
              have r2 : decide (2147483647 < v.n) = false := decide_eq_false (by omega)
              rw [if_neg hr]
              repeat' first
                | refine .br ?_
                | refine .seq ?_ | refine .rg ?_ | refine .rd ?_ | refine .block ?_ | refine .scope ?_ | refine .skip ?_ | refine .label ?_ | refine .exit ?_ | refine .ret ?_
                | refine .ct ?_ | refine .cf ?_ | refine .cy ?_ | refine .cn ?_ | (refine .cond rfl ?_ ?_ <;> intro hc)
                | refine A.nil_seq ?_ | refine .nl ?_ | refine .dd ?_ | refine .ys ?_ | refine .no ?_ | (refine A.guard rfl ?_ ?_ <;> intro hc)
                | refine .lb ?_ | refine .ln ?_ | refine .ls ?_ | refine .pv ?_ | refine .ix ?_ | refine .pt ?_ | refine .pf ?_ | refine .bx ?_ | refine .al ?_ | refine .st ?_ | refine .ad ?_ | refine .sb ?_ | refine .mf ?_ | refine .cl ?_ | refine .cw ?_ | refine .ck ?_ | fail
              exact FinR.ret1 rfl (Weak.refl _)
          · have q2 : (v.kind == 2) = false := by simp [k2]
            have q2' : (!(v.kind == 2)) = true := by simp [k2]
            rw [if_neg k2]
            repeat' first
              | refine .br ?_
              | refine .seq ?_ | refine .rg ?_ | refine .rd ?_ | refine .block ?_ | refine .scope ?_ | refine .skip ?_ | refine .label ?_ | refine .exit ?_ | refine .ret ?_
              | refine .ct ?_ | refine .cf ?_ | refine .cy ?_ | refine .cn ?_ | (refine .cond rfl ?_ ?_ <;> intro hc)
              | refine A.nil_seq ?_ | refine .nl ?_ | refine .dd ?_ | refine .ys ?_ | refine .no ?_ | (refine A.guard rfl ?_ ?_ <;> intro hc)
              | refine .lb ?_ | refine .ln ?_ | refine .ls ?_ | refine .pv ?_ | refine .ix ?_ | refine .pt ?_ | refine .pf ?_ | refine .bx ?_ | refine .al ?_ | refine .st ?_ | refine .ad ?_ | refine .sb ?_ | refine .mf ?_ | refine .cl ?_ | refine .cw ?_ | refine .ck ?_ | fail
            exact FinR.ret1 rfl (Weak.tup (WeakL.cons weak_flatV (WeakL.refl _)))
        · have b1 : (name == [73, 110, 116]) = false := by simpa [sInt] using n1
          rw [if_neg n1]
          by_cases n2 : name = sBoolean
          · have b2 : (name == [66, 111, 111, 108, 101, 97, 110]) = true := by rw [n2]; rfl
            rw [if_pos n2]
            by_cases k1 : v.kind = 1
            · have q1 : (v.kind == 1) = true := by simp [k1]
              have q1' : (!(v.kind == 1)) = false := by simp [k1]
              rw [if_pos k1]
              repeat' first
                | refine .br ?_
                | refine .seq ?_ | refine .rg ?_ | refine .rd ?_ | refine .block ?_ | refine .scope ?_ | refine .skip ?_ | refine .label ?_ | refine .exit ?_ | refine .ret ?_
                | refine .ct ?_ | refine .cf ?_ | refine .cy ?_ | refine .cn ?_ | (refine .cond rfl ?_ ?_ <;> intro hc)
                | refine A.nil_seq ?_ | refine .nl ?_ | refine .dd ?_ | refine .ys ?_ | refine .no ?_ | (refine A.guard rfl ?_ ?_ <;> intro hc)
                | refine .lb ?_ | refine .ln ?_ | refine .ls ?_ | refine .pv ?_ | refine .ix ?_ | refine .pt ?_ | refine .pf ?_ | refine .bx ?_ | refine .al ?_ | refine .st ?_ | refine .ad ?_ | refine .sb ?_ | refine .mf ?_ | refine .cl ?_ | refine .cw ?_ | refine .ck ?_ | fail
              exact FinR.ret1 rfl (Weak.refl _)
            · have q1 : (v.kind == 1) = false := by simp [k1]
              have q1' : (!(v.kind == 1)) = true := by simp [k1]
              rw [if_neg k1]
              repeat' first
                | refine .br ?_
                | refine .seq ?_ | refine .rg ?_ | refine .rd ?_ | refine .block ?_ | refine .scope ?_ | refine .skip ?_ | refine .label ?_ | refine .exit ?_ | refine .ret ?_
                | refine .ct ?_ | refine .cf ?_ | refine .cy ?_ | refine .cn ?_ | (refine .cond rfl ?_ ?_ <;> intro hc)
                | refine A.nil_seq ?_ | refine .nl ?_ | refine .dd ?_ | refine .ys ?_ | refine .no ?_ | (refine A.guard rfl ?_ ?_ <;> intro hc)
                | refine .lb ?_ | refine .ln ?_ | refine .ls ?_ | refine .pv ?_ | refine .ix ?_ | refine .pt ?_ | refine .pf ?_ | refine .bx ?_ | refine .al ?_ | refine .st ?_ | refine .ad ?_ | refine .sb ?_ | refine .mf ?_ | refine .cl ?_ | refine .cw ?_ | refine .ck ?_ | fail
              exact FinR.ret1 rfl (Weak.tup (WeakL.cons weak_flatV (WeakL.refl _)))
          · have b2 : (name == [66, 111, 111, 108, 101, 97, 110]) = false := by simpa [sBoolean] using n2
            rw [if_neg n2]
            by_cases n3 : name = sID
            · have b3 : (name == [73, 68]) = true := by rw [n3]; rfl
              have b3' : (name != [73, 68]) = false := by rw [n3]; rfl
              by_cases k2 : v.kind = 2
              · have q2 : (v.kind == 2) = true := by simp [k2]
                have q2' : (!(v.kind == 2)) = false := by simp [k2]
                rw [if_pos ⟨n3, k2⟩]
                repeat' first
                  | refine .br ?_
                  | refine .seq ?_ | refine .rg ?_ | refine .rd ?_ | refine .block ?_ | refine .scope ?_ | refine .skip ?_ | refine .label ?_ | refine .exit ?_ | refine .ret ?_
                  | refine .ct ?_ | refine .cf ?_ | refine .cy ?_ | refine .cn ?_ | (refine .cond rfl ?_ ?_ <;> intro hc)
                  | refine A.nil_seq ?_ | refine .nl ?_ | refine .dd ?_ | refine .ys ?_ | refine .no ?_ | (refine A.guard rfl ?_ ?_ <;> intro hc)
                  | refine .lb ?_ | refine .ln ?_ | refine .ls ?_ | refine .pv ?_ | refine .ix ?_ | refine .pt ?_ | refine .pf ?_ | refine .bx ?_ | refine .al ?_ | refine .st ?_ | refine .ad ?_ | refine .sb ?_ | refine .mf ?_ | refine .cl ?_ | refine .cw ?_ | refine .ck ?_ | fail
                exact FinR.ret1 rfl (Weak.refl _)
              · have q2 : (v.kind == 2) = false := by simp [k2]
                have q2' : (!(v.kind == 2)) = true := by simp [k2]
                rw [if_neg (fun h => k2 h.2), if_pos (.inl n3)]
                by_cases k4 : v.kind = 4
                · have q4 : (v.kind == 4) = true := by simp [k4]
                  have q4' : (!(v.kind == 4)) = false := by simp [k4]
                  rw [if_pos k4]
                  repeat' first
                    | refine .br ?_
                    | refine .seq ?_ | refine .rg ?_ | refine .rd ?_ | refine .block ?_ | refine .scope ?_ | refine .skip ?_ | refine .label ?_ | refine .exit ?_ | refine .ret ?_
                    | refine .ct ?_ | refine .cf ?_ | refine .cy ?_ | refine .cn ?_ | (refine .cond rfl ?_ ?_ <;> intro hc)
                    | refine A.nil_seq ?_ | refine .nl ?_ | refine .dd ?_ | refine .ys ?_ | refine .no ?_ | (refine A.guard rfl ?_ ?_ <;> intro hc)
                    | refine .lb ?_ | refine .ln ?_ | refine .ls ?_ | refine .pv ?_ | refine .ix ?_ | refine .pt ?_ | refine .pf ?_ | refine .bx ?_ | refine .al ?_ | refine .st ?_ | refine .ad ?_ | refine .sb ?_ | refine .mf ?_ | refine .cl ?_ | refine .cw ?_ | refine .ck ?_ | fail
                  exact FinR.ret1 rfl (Weak.refl _)
                · have q4 : (v.kind == 4) = false := by simp [k4]
                  have q4' : (!(v.kind == 4)) = true := by simp [k4]
                  rw [if_neg k4]
                  repeat' first
                    | refine .br ?_
                    | refine .seq ?_ | refine .rg ?_ | refine .rd ?_ | refine .block ?_ | refine .scope ?_ | refine .skip ?_ | refine .label ?_ | refine .exit ?_ | refine .ret ?_
                    | refine .ct ?_ | refine .cf ?_ | refine .cy ?_ | refine .cn ?_ | (refine .cond rfl ?_ ?_ <;> intro hc)
                    | refine A.nil_seq ?_ | refine .nl ?_ | refine .dd ?_ | refine .ys ?_ | refine .no ?_ | (refine A.guard rfl ?_ ?_ <;> intro hc)
                    | refine .lb ?_ | refine .ln ?_ | refine .ls ?_ | refine .pv ?_ | refine .ix ?_ | refine .pt ?_ | refine .pf ?_ | refine .bx ?_ | refine .al ?_ | refine .st ?_ | refine .ad ?_ | refine .sb ?_ | refine .mf ?_ | refine .cl ?_ | refine .cw ?_ | refine .ck ?_ | fail
                  exact FinR.ret1 rfl (Weak.tup (WeakL.cons weak_flatV (WeakL.refl _)))
            · have b3 : (name == [73, 68]) = false := by simpa [sID] using n3
              have b3' : (name != [73, 68]) = true := by simpa [sID] using n3
              rw [if_neg (fun h => n3 h.1)]
              by_cases n4 : name = sString
              · have b4 : (name != [83, 116, 114, 105, 110, 103]) = false := by rw [n4]; rfl
                rw [if_pos (.inr n4)]
                by_cases k4 : v.kind = 4
                · have q4 : (v.kind == 4) = true := by simp [k4]
                  have q4' : (!(v.kind == 4)) = false := by simp [k4]
                  rw [if_pos k4]
                  repeat' first
                    | refine .br ?_
                    | refine .seq ?_ | refine .rg ?_ | refine .rd ?_ | refine .block ?_ | refine .scope ?_ | refine .skip ?_ | refine .label ?_ | refine .exit ?_ | refine .ret ?_
                    | refine .ct ?_ | refine .cf ?_ | refine .cy ?_ | refine .cn ?_ | (refine .cond rfl ?_ ?_ <;> intro hc)
                    | refine A.nil_seq ?_ | refine .nl ?_ | refine .dd ?_ | refine .ys ?_ | refine .no ?_ | (refine A.guard rfl ?_ ?_ <;> intro hc)
                    | refine .lb ?_ | refine .ln ?_ | refine .ls ?_ | refine .pv ?_ | refine .ix ?_ | refine .pt ?_ | refine .pf ?_ | refine .bx ?_ | refine .al ?_ | refine .st ?_ | refine .ad ?_ | refine .sb ?_ | refine .mf ?_ | refine .cl ?_ | refine .cw ?_ | refine .ck ?_ | fail
                  exact FinR.ret1 rfl (Weak.refl _)
                · have q4 : (v.kind == 4) = false := by simp [k4]
                  have q4' : (!(v.kind == 4)) = true := by simp [k4]
                  rw [if_neg k4]
                  repeat' first
                    | refine .br ?_
                    | refine .seq ?_ | refine .rg ?_ | refine .rd ?_ | refine .block ?_ | refine .scope ?_ | refine .skip ?_ | refine .label ?_ | refine .exit ?_ | refine .ret ?_
                    | refine .ct ?_ | refine .cf ?_ | refine .cy ?_ | refine .cn ?_ | (refine .cond rfl ?_ ?_ <;> intro hc)
                    | refine A.nil_seq ?_ | refine .nl ?_ | refine .dd ?_ | refine .ys ?_ | refine .no ?_ | (refine A.guard rfl ?_ ?_ <;> intro hc)
                    | refine .lb ?_ | refine .ln ?_ | refine .ls ?_ | refine .pv ?_ | refine .ix ?_ | refine .pt ?_ | refine .pf ?_ | refine .bx ?_ | refine .al ?_ | refine .st ?_ | refine .ad ?_ | refine .sb ?_ | refine .mf ?_ | refine .cl ?_ | refine .cw ?_ | refine .ck ?_ | fail
                  exact FinR.ret1 rfl (Weak.tup (WeakL.cons weak_flatV (WeakL.refl _)))
              · have b4 : (name != [83, 116, 114, 105, 110, 103]) = true := by simpa [sString] using n4
                rw [if_neg (fun h => h.elim n3 n4)]
                repeat' first
                  | refine .br ?_
                  | refine .seq ?_ | refine .rg ?_ | refine .rd ?_ | refine .block ?_ | refine .scope ?_ | refine .skip ?_ | refine .label ?_ | refine .exit ?_ | refine .ret ?_
                  | refine .ct ?_ | refine .cf ?_ | refine .cy ?_ | refine .cn ?_ | (refine .cond rfl ?_ ?_ <;> intro hc)
                  | refine A.nil_seq ?_ | refine .nl ?_ | refine .dd ?_ | refine .ys ?_ | refine .no ?_ | (refine A.guard rfl ?_ ?_ <;> intro hc)
                  | refine .lb ?_ | refine .ln ?_ | refine .ls ?_ | refine .pv ?_ | refine .ix ?_ | refine .pt ?_ | refine .pf ?_ | refine .bx ?_ | refine .al ?_ | refine .st ?_ | refine .ad ?_ | refine .sb ?_ | refine .mf ?_ | refine .cl ?_ | refine .cw ?_ | refine .ck ?_ | fail
                exact FinR.ret1 rfl (Weak.tup (WeakL.cons weak_flatV (WeakL.refl _)))
end Go.Proofs.YtijlmchfepjjkaaDoor
