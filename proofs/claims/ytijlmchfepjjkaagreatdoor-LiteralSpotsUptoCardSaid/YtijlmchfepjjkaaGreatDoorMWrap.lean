/-
  The package wrap: Right, bit, Is, Item, List, Must, Bare.
-/
import Derived.Test.YtijlmchfepjjkaaGreatDoorMBits
import Derived.Test.YtijlmchfepjjkaaGreatDoorMNum
import Derived.Test.YtijlmchfepjjkaaGreatDoorMLit
namespace Go.Proofs.YtijlmchfepjjkaaGreatDoor
open Go Go.Av
set_option maxRecDepth 100000
set_option maxHeartbeats 8000000
set_option linter.unusedVariables false
set_option linter.unusedSimpArgs false
attribute [local irreducible] HCode AOps PFn AFn Av.Step TStep

theorem shr_musts {m l : Int} (h0 : 0 ≤ l) (h4 : l ≤ 4) : m.fdiv (2 ^ min (l + 1).toNat IntKind.i64.bits) = m / 2 ^ (l.toNat + 1) := by
  have e : min (l + 1).toNat IntKind.i64.bits = l.toNat + 1 := by
    show min (l + 1).toNat 64 = _
    omega
  rw [e, Int.fdiv_eq_ediv_of_nonneg _ (Int.le_of_lt (Int.pow_pos (by decide)))]
theorem div_zero_iff {m c : Int} (h : 0 ≤ m) (hc : 0 < c) : (m / c == 0) = decide (m < c) := by
  rw [Bool.eq_iff_iff, beq_iff_eq, decide_eq_true_eq]
  constructor
  · intro e
    have h1 := Int.emod_lt_of_pos m hc
    have h2 := Int.mul_ediv_add_emod m c
    rw [e] at h2
    omega
  · exact Int.ediv_eq_zero_of_lt h
theorem wRight (t : Typ) (hs : t.name.length ≤ 9223372036854775806) : PFn Tryz.prog 53 [t.enc] (.bool (rightT t)) := by
  have hn := lName t.name hs
  refine AFn.plain rfl rfl (AFn.enter [2] Tryz.func53 rfl rfl rfl rfl rfl (by decide) ?_)
  by_cases h1 : 0 ≤ t.lists
  · have e1 : decide (0 ≤ t.lists) = true := decide_eq_true h1
    by_cases h2 : t.lists ≤ 4
    · have e2 : decide (t.lists ≤ 4) = true := decide_eq_true h2
      by_cases h3 : 0 ≤ t.musts
      · have e3 : decide (0 ≤ t.musts) = true := decide_eq_true h3
        repeat' first
          | refine .br ?_
          | refine .seq ?_ | refine .rg ?_ | refine .rd ?_ | refine .block ?_ | refine .scope ?_ | refine .skip ?_ | refine .label ?_ | refine .exit ?_ | refine .ret ?_
          | refine .ct ?_ | refine .cf ?_ | refine .cy ?_ | refine .cn ?_ | (refine .cond rfl ?_ ?_ <;> intro hc)
          | refine A.nil_seq ?_ | refine .nl ?_ | refine .dd ?_ | refine .ys ?_ | refine .no ?_ | (refine A.guard rfl ?_ ?_ <;> intro hc)
          | refine .lb ?_ | refine .ln ?_ | refine .ls ?_ | refine .pv ?_ | refine .ix ?_ | refine .pt ?_ | refine .pf ?_ | refine .bx ?_ | refine .al ?_ | refine .st ?_ | refine .ad ?_ | refine .sb ?_ | refine .mf ?_ | refine .cl ?_ | refine .cw ?_ | refine .ck ?_
          | refine A.shr rfl rfl (by omega) (shr_musts h1 h2) ?_ | fail
        all_goals
          refine Fin.ret1 rfl (Weak.eq (congrArg AV.bool ?_))
          unfold rightT
          rw [e1, e2, e3]
          try rw [div_zero_iff h3 (Int.pow_pos (by decide))]
          simp_all
      · have e3 : decide (0 ≤ t.musts) = false := decide_eq_false h3
        repeat' first
          | refine .br ?_
          | refine .seq ?_ | refine .rg ?_ | refine .rd ?_ | refine .block ?_ | refine .scope ?_ | refine .skip ?_ | refine .label ?_ | refine .exit ?_ | refine .ret ?_
          | refine .ct ?_ | refine .cf ?_ | refine .cy ?_ | refine .cn ?_ | (refine .cond rfl ?_ ?_ <;> intro hc)
          | refine A.nil_seq ?_ | refine .nl ?_ | refine .dd ?_ | refine .ys ?_ | refine .no ?_ | (refine A.guard rfl ?_ ?_ <;> intro hc)
          | refine .lb ?_ | refine .ln ?_ | refine .ls ?_ | refine .pv ?_ | refine .ix ?_ | refine .pt ?_ | refine .pf ?_ | refine .bx ?_ | refine .al ?_ | refine .st ?_ | refine .ad ?_ | refine .sb ?_ | refine .mf ?_ | refine .cl ?_ | refine .cw ?_ | refine .ck ?_ | fail
        all_goals
          refine Fin.ret1 rfl (Weak.eq (congrArg AV.bool ?_))
          unfold rightT
          rw [e3]; simp_all
    · have e2 : decide (t.lists ≤ 4) = false := decide_eq_false h2
      repeat' first
        | refine .br ?_
        | refine .seq ?_ | refine .rg ?_ | refine .rd ?_ | refine .block ?_ | refine .scope ?_ | refine .skip ?_ | refine .label ?_ | refine .exit ?_ | refine .ret ?_
        | refine .ct ?_ | refine .cf ?_ | refine .cy ?_ | refine .cn ?_ | (refine .cond rfl ?_ ?_ <;> intro hc)
        | refine A.nil_seq ?_ | refine .nl ?_ | refine .dd ?_ | refine .ys ?_ | refine .no ?_ | (refine A.guard rfl ?_ ?_ <;> intro hc)
        | refine .lb ?_ | refine .ln ?_ | refine .ls ?_ | refine .pv ?_ | refine .ix ?_ | refine .pt ?_ | refine .pf ?_ | refine .bx ?_ | refine .al ?_ | refine .st ?_ | refine .ad ?_ | refine .sb ?_ | refine .mf ?_ | refine .cl ?_ | refine .cw ?_ | refine .ck ?_ | fail
      all_goals
        refine Fin.ret1 rfl (Weak.eq (congrArg AV.bool ?_))
        unfold rightT
        rw [e2]; simp_all
  · have e1 : decide (0 ≤ t.lists) = false := decide_eq_false h1
    repeat' first
      | refine .br ?_
      | refine .seq ?_ | refine .rg ?_ | refine .rd ?_ | refine .block ?_ | refine .scope ?_ | refine .skip ?_ | refine .label ?_ | refine .exit ?_ | refine .ret ?_
      | refine .ct ?_ | refine .cf ?_ | refine .cy ?_ | refine .cn ?_ | (refine .cond rfl ?_ ?_ <;> intro hc)
      | refine A.nil_seq ?_ | refine .nl ?_ | refine .dd ?_ | refine .ys ?_ | refine .no ?_ | (refine A.guard rfl ?_ ?_ <;> intro hc)
      | refine .lb ?_ | refine .ln ?_ | refine .ls ?_ | refine .pv ?_ | refine .ix ?_ | refine .pt ?_ | refine .pf ?_ | refine .bx ?_ | refine .al ?_ | refine .st ?_ | refine .ad ?_ | refine .sb ?_ | refine .mf ?_ | refine .cl ?_ | refine .cw ?_ | refine .ck ?_ | fail
    all_goals
      refine Fin.ret1 rfl (Weak.eq (congrArg AV.bool ?_))
      unfold rightT
      rw [e1]; simp_all
theorem and1 (m : Nat) : m &&& 1 = m % 2 := Nat.and_two_pow_sub_one_eq_mod m 1
theorem bit0 (t : Typ) (h0 : 0 ≤ t.musts) (h1 : t.musts < 9223372036854775808) : PFn Tryz.prog 89 [t.enc, .int .i64 0] (.bool (decide (t.musts % 2 = 1))) := by
  refine AFn.plain rfl rfl (AFn.enter [4] Tryz.func89 rfl rfl rfl rfl rfl (by decide) ?_)
  have e : t.musts.fdiv (2 ^ min (0 : Int).toNat IntKind.i64.bits) = t.musts := by
    rw [show (2 : Int) ^ min (0 : Int).toNat IntKind.i64.bits = 1 from rfl, Int.fdiv_eq_ediv_of_nonneg _ (by decide), Int.ediv_one]
  repeat' first
    | refine .br ?_
    | refine .seq ?_ | refine .rg ?_ | refine .rd ?_ | refine .block ?_ | refine .scope ?_ | refine .skip ?_ | refine .label ?_ | refine .exit ?_ | refine .ret ?_
    | refine .ct ?_ | refine .cf ?_ | refine .cy ?_ | refine .cn ?_ | (refine .cond rfl ?_ ?_ <;> intro hc)
    | refine A.nil_seq ?_ | refine .nl ?_ | refine .dd ?_ | refine .ys ?_ | refine .no ?_ | (refine A.guard rfl ?_ ?_ <;> intro hc)
    | refine .lb ?_ | refine .ln ?_ | refine .ls ?_ | refine .pv ?_ | refine .ix ?_ | refine .pt ?_ | refine .pf ?_ | refine .bx ?_ | refine .al ?_ | refine .st ?_ | refine .ad ?_ | refine .sb ?_ | refine .mf ?_ | refine .cl ?_ | refine .cw ?_ | refine .ck ?_
    | refine A.shr rfl rfl (by decide) e ?_ | refine A.band (m := t.musts.toNat) (n := 1) rfl rfl (by omega) rfl (by omega) (by decide) (and1 _) ?_ | fail
  refine Fin.ret1 rfl (Weak.eq (congrArg AV.bool ?_))
  rw [Bool.eq_iff_iff, beq_iff_eq, decide_eq_true_eq]
  omega
theorem pow_le32 {l : Int} (h : l ≤ 4) : (2 : Int) ^ (l.toNat + 1) ≤ 32 := by
  have h' : l.toNat ≤ 4 := by omega
  generalize l.toNat = n at h'
  match n, h' with
  | 0, _ => decide
  | 1, _ => decide
  | 2, _ => decide
  | 3, _ => decide
  | 4, _ => decide
theorem musts_lt {t : Typ} (h : rightT t = true) : t.musts < 32 := by
  obtain ⟨_, _, h3, _, h5⟩ := rightT_iff.1 h
  have := pow_le32 h3
  omega
theorem wIs (t : Typ) (hs : t.name.length ≤ 9223372036854775806) : PFn Tryz.prog 71 [t.enc] (.bool (isT t)) := by
  have hr := wRight t hs
  refine AFn.plain rfl rfl (AFn.enter [2] Tryz.func71 rfl rfl rfl rfl rfl (by decide) ?_)
  cases c : rightT t with
  | true =>
    rw [c] at hr
    have hb := bit0 t (rightT_iff.1 c).2.2.2.1 (by have := musts_lt c; omega)
    repeat' first
      | refine .br ?_
      | refine .seq ?_ | refine .rg ?_ | refine .rd ?_ | refine .block ?_ | refine .scope ?_ | refine .skip ?_ | refine .label ?_ | refine .exit ?_ | refine .ret ?_
      | refine .ct ?_ | refine .cf ?_ | refine .cy ?_ | refine .cn ?_ | (refine .cond rfl ?_ ?_ <;> intro hc)
      | refine A.nil_seq ?_ | refine .nl ?_ | refine .dd ?_ | refine .ys ?_ | refine .no ?_ | (refine A.guard rfl ?_ ?_ <;> intro hc)
      | refine .lb ?_ | refine .ln ?_ | refine .ls ?_ | refine .pv ?_ | refine .ix ?_ | refine .pt ?_ | refine .pf ?_ | refine .bx ?_ | refine .al ?_ | refine .st ?_ | refine .ad ?_ | refine .sb ?_ | refine .mf ?_ | refine .cl ?_ | refine .cw ?_ | refine .ck ?_ | fail
    refine Fin.ret1 rfl (Weak.eq (congrArg AV.bool ?_))
    unfold isT; rw [c]; rfl
  | false =>
    rw [c] at hr
    repeat' first
      | refine .br ?_
      | refine .seq ?_ | refine .rg ?_ | refine .rd ?_ | refine .block ?_ | refine .scope ?_ | refine .skip ?_ | refine .label ?_ | refine .exit ?_ | refine .ret ?_
      | refine .ct ?_ | refine .cf ?_ | refine .cy ?_ | refine .cn ?_ | (refine .cond rfl ?_ ?_ <;> intro hc)
      | refine A.nil_seq ?_ | refine .nl ?_ | refine .dd ?_ | refine .ys ?_ | refine .no ?_ | (refine A.guard rfl ?_ ?_ <;> intro hc)
      | refine .lb ?_ | refine .ln ?_ | refine .ls ?_ | refine .pv ?_ | refine .ix ?_ | refine .pt ?_ | refine .pf ?_ | refine .bx ?_ | refine .al ?_ | refine .st ?_ | refine .ad ?_ | refine .sb ?_ | refine .mf ?_ | refine .cl ?_ | refine .cw ?_ | refine .ck ?_ | fail
    refine Fin.ret1 rfl (Weak.eq (congrArg AV.bool ?_))
    unfold isT; rw [c]; rfl
theorem shr_one {m : Int} : m.fdiv (2 ^ min (1 : Int).toNat IntKind.i64.bits) = m / 2 := by
  rw [show (2 : Int) ^ min (1 : Int).toNat IntKind.i64.bits = 2 from rfl, Int.fdiv_eq_ediv_of_nonneg _ (by decide)]
theorem wItem (t : Typ) (hs : t.name.length ≤ 9223372036854775806) : PFn Tryz.prog 29 [t.enc] (.tup [(itemR t).1.enc, .bool (itemR t).2]) := by
  have hr := wRight t hs
  refine AFn.plain rfl rfl (AFn.enterR [.cell 2 26, .tmp 3] Tryz.func29 rfl rfl rfl rfl rfl ?_)
  unfold itemR
  cases c : rightT t with
  | true =>
    rw [c] at hr
    obtain ⟨_, q1, q2, q3, q4⟩ := rightT_iff.1 c
    by_cases h0 : t.lists = 0
    · have e0 : (t.lists == 0) = true := by simp [h0]
      rw [if_neg (fun h => h.2 h0)]
      repeat' first
        | refine .br ?_
        | refine .seq ?_ | refine .rg ?_ | refine .rd ?_ | refine .block ?_ | refine .scope ?_ | refine .skip ?_ | refine .label ?_ | refine .exit ?_ | refine .ret ?_
        | refine .ct ?_ | refine .cf ?_ | refine .cy ?_ | refine .cn ?_ | (refine .cond rfl ?_ ?_ <;> intro hc)
        | refine A.nil_seq ?_ | refine .nl ?_ | refine .dd ?_ | refine .ys ?_ | refine .no ?_ | (refine A.guard rfl ?_ ?_ <;> intro hc)
        | refine .lb ?_ | refine .ln ?_ | refine .ls ?_ | refine .pv ?_ | refine .ix ?_ | refine .pt ?_ | refine .pf ?_ | refine .bx ?_ | refine .al ?_ | refine .st ?_ | refine .ad ?_ | refine .sb ?_ | refine .mf ?_ | refine .cl ?_ | refine .cw ?_ | refine .ck ?_ | fail
      exact FinR.ret1 rfl (Weak.refl _)
    · have e0 : (t.lists == 0) = false := by simp [h0]
      rw [if_pos ⟨rfl, h0⟩]
      repeat' first
        | refine .br ?_
        | refine .seq ?_ | refine .rg ?_ | refine .rd ?_ | refine .block ?_ | refine .scope ?_ | refine .skip ?_ | refine .label ?_ | refine .exit ?_ | refine .ret ?_
        | refine .ct ?_ | refine .cf ?_ | refine .cy ?_ | refine .cn ?_ | (refine .cond rfl ?_ ?_ <;> intro hc)
        | refine A.nil_seq ?_ | refine .nl ?_ | refine .dd ?_ | refine .ys ?_ | refine .no ?_ | (refine A.guard rfl ?_ ?_ <;> intro hc)
        | refine .lb ?_ | refine .ln ?_ | refine .ls ?_ | refine .pv ?_ | refine .ix ?_ | refine .pt ?_ | refine .pf ?_ | refine .bx ?_ | refine .al ?_ | refine .st ?_ | refine .ad ?_ | refine .sb ?_ | refine .mf ?_ | refine .cl ?_ | refine .cw ?_ | refine .ck ?_
        | refine A.shr rfl rfl (by decide) shr_one ?_ | fail
      exact FinR.ret1 rfl (Weak.refl _)
  | false =>
    rw [c] at hr
    rw [if_neg (fun h => by cases h.1)]
    repeat' first
      | refine .br ?_
      | refine .seq ?_ | refine .rg ?_ | refine .rd ?_ | refine .block ?_ | refine .scope ?_ | refine .skip ?_ | refine .label ?_ | refine .exit ?_ | refine .ret ?_
      | refine .ct ?_ | refine .cf ?_ | refine .cy ?_ | refine .cn ?_ | (refine .cond rfl ?_ ?_ <;> intro hc)
      | refine A.nil_seq ?_ | refine .nl ?_ | refine .dd ?_ | refine .ys ?_ | refine .no ?_ | (refine A.guard rfl ?_ ?_ <;> intro hc)
      | refine .lb ?_ | refine .ln ?_ | refine .ls ?_ | refine .pv ?_ | refine .ix ?_ | refine .pt ?_ | refine .pf ?_ | refine .bx ?_ | refine .al ?_ | refine .st ?_ | refine .ad ?_ | refine .sb ?_ | refine .mf ?_ | refine .cl ?_ | refine .cw ?_ | refine .ck ?_ | fail
    exact FinR.ret1 rfl (Weak.refl _)
theorem shl_one {m : Int} (h0 : 0 ≤ m) (h1 : m < 1073741824) : IntKind.i64.wrap (m * 2 ^ min (1 : Int).toNat IntKind.i64.bits) = m * 2 := by
  rw [show (2 : Int) ^ min (1 : Int).toNat IntKind.i64.bits = 2 from rfl, IntWalk.i64_in _ (by omega)]
def listR (t : Typ) : Typ × Bool := if rightT t = true ∧ t.lists ≠ 4 then (listT t, true) else (zeroT, false)
theorem or1 (m : Nat) (h : m < 32) : m ||| 1 = if m % 2 = 1 then m else m + 1 := by
  have : ∀ m : Fin 32, m.val ||| 1 = if m.val % 2 = 1 then m.val else m.val + 1 := by decide +kernel
  exact this ⟨m, h⟩
theorem clr1 {m : Int} (h0 : 0 ≤ m) (h : m < 32) : IntKind.i64.wrap (((BitVec.ofInt IntKind.i64.bits m) &&& ~~~(BitVec.ofInt IntKind.i64.bits 1)).toNat : Int) = if m % 2 = 1 then m - 1 else m := by
  have : ∀ m : Fin 32, IntKind.i64.wrap (((BitVec.ofInt IntKind.i64.bits (m.val : Int)) &&& ~~~(BitVec.ofInt IntKind.i64.bits 1)).toNat : Int) = if (m.val : Int) % 2 = 1 then (m.val : Int) - 1 else (m.val : Int) := by decide +kernel
  have e := this ⟨m.toNat, by omega⟩
  simp only [Int.toNat_of_nonneg h0] at e
  exact e
end Go.Proofs.YtijlmchfepjjkaaGreatDoor
