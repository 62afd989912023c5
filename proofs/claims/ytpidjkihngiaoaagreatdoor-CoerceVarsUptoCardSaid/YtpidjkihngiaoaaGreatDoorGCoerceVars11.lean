/-
  The reference: Int64, GoodValue.
  The reference: GoodValue.
-/
import Derived.Lib.ParseIntBCases
import Derived.Test.YtpidjkihngiaoaaGreatDoorGCoerceVars10
namespace Go.Proofs.YtpidjkihngiaoaaGreatDoor
open Go Go.Av
set_option maxRecDepth 100000
set_option maxHeartbeats 16000000
set_option linter.unusedVariables false
set_option linter.unusedSimpArgs false
attribute [local irreducible] HCode AOps PFn AFn Av.Step TStep

def dOf (c : UInt8) : Nat := (c.toNat + 208) % 256
def limI (c : UInt8) : Int := Int.tdiv (-9223372036854775808 + (dOf c : Int)) 10
def foldI : Int → Str → Option Int
  | n, [] => some n
  | n, c :: r => if n < limI c then none else foldI (10 * n - dOf c) r
def negI (s : Str) : Bool := s.head? == some 45
def i64ok (s : Str) : Bool := match foldI 0 (if negI s = true then s.drop 1 else s) with
  | none => false
  | some n => negI s || n != -9223372036854775808
theorem foldI_drop {s : Str} {k : Nat} {n : Int} (h : k < s.length) : foldI n (s.drop k) = if n < limI s[k] then none else foldI (10 * n - dOf s[k]) (s.drop (k + 1)) := by
  rw [List.drop_eq_getElem_cons h, foldI]
theorem dOf_lt (c : UInt8) : dOf c < 256 := Nat.mod_lt _ (by decide)
theorem lim_iff (c : UInt8) (n : Int) : n < limI c ↔ 10 * n < -9223372036854775808 + (dOf c : Int) := by
  have hd := dOf_lt c
  unfold limI
  have e : Int.tdiv (-9223372036854775808 + (dOf c : Int)) 10 = -((9223372036854775808 - (dOf c : Int)) / 10) := by
    rw [show (-9223372036854775808 + (dOf c : Int)) = -(9223372036854775808 - (dOf c : Int)) by omega, Int.neg_tdiv, Int.tdiv_eq_ediv_of_nonneg (by omega)]
  rw [e]
  omega
theorem lim_in (c : UInt8) : -9223372036854775808 ≤ limI c ∧ limI c ≤ 0 := by
  have hd := dOf_lt c
  unfold limI
  have e : Int.tdiv (-9223372036854775808 + (dOf c : Int)) 10 = -((9223372036854775808 - (dOf c : Int)) / 10) := by
    rw [show (-9223372036854775808 + (dOf c : Int)) = -(9223372036854775808 - (dOf c : Int)) by omega, Int.neg_tdiv, Int.tdiv_eq_ediv_of_nonneg (by omega)]
  rw [e]
  omega
theorem lim_wrap (c : UInt8) : IntKind.i64.wrap (Int.tdiv (-9223372036854775808 + (dOf c : Int)) 10) = limI c := IntWalk.i64_in _ (by have := lim_in c; unfold limI at this; omega)
theorem conv_d (c : UInt8) : IntKind.i64.wrap (IntKind.u8.wrap ((c.toNat : Int) - 48)) = (dOf c : Int) := by
  have : ∀ c : Fin 256, IntKind.i64.wrap (IntKind.u8.wrap ((c.val : Int) - 48)) = (((c.val + 208) % 256 : Nat) : Int) := by decide +kernel
  exact this ⟨c.toNat, UInt8.toNat_lt c⟩
attribute [local irreducible] Int.decLt Int.decLe Int.le Int.lt limI in
theorem rInt64 (s : Str) (hs : s.length ≤ 1048576) : PFn Tryz.prog 96 [.str s] (.tup [.undef, .bool (i64ok s)]) := by
  refine AFn.plain rfl rfl (AFn.enter [2, 3] Tryz.func96 rfl rfl rfl rfl rfl (by decide) ?_)
  have loop : ∀ (i0 : Nat) (ng : Bool), i0 ≤ s.length → negI s = ng → (if negI s = true then s.drop 1 else s) = s.drop i0 →
      HCode Tryz.prog Tryz.f96.ntmps [] (tailOf 4 (bodyOf Tryz.f96)) (fin [2, 3] (fun e _ => ∃ v, e = .ret v ∧ Weak v (.tup [.undef, .bool (i64ok s)])))
        [(0, .str s), (4, .int .i64 (i0 : Int)), (5, .bool ng), (6, .int .i64 0)] ⟨[], []⟩ := fun i0 ng hi0 hng hdrop => by
    have hok : i64ok s = match foldI 0 (s.drop i0) with
      | none => false
      | some n => ng || n != -9223372036854775808 := by unfold i64ok; rw [hdrop, hng]
    repeat' first
      | refine .seq ?_ | refine .rg ?_ | refine .rd ?_ | refine .block ?_ | refine .scope ?_ | refine .skip ?_ | refine .label ?_ | refine .exit ?_ | refine .ret ?_
      | refine .ct ?_ | refine .cf ?_ | refine .cy ?_ | refine .cn ?_ | (refine .cond rfl ?_ ?_ <;> intro hc)
      | refine A.nil_seq ?_ | refine .nl ?_ | refine .dd ?_ | refine .ys ?_ | refine .no ?_ | (refine A.guard rfl ?_ ?_ <;> intro hc)
      | refine .lb ?_ | refine .ln ?_ | refine .ls ?_ | refine .pv ?_ | refine .ix ?_ | refine .pt ?_ | refine .pf ?_ | refine .bx ?_ | refine .al ?_ | refine .st ?_ | refine .ad ?_ | refine .sb ?_ | refine .mf ?_ | refine .cl ?_ | refine .cw ?_ | refine .ck ?_ | fail
    change HCode _ _ _ _ _ _ _
    refine HCode.loop (fun m σs σ => ∃ (k : Nat) (n : Int), m = s.length - k ∧ k ≤ s.length ∧ -9223372036854775808 ≤ n ∧ n ≤ 0 ∧ foldI 0 (s.drop i0) = foldI n (s.drop k) ∧ σ = ⟨[], []⟩ ∧
      σs = [(4, .int .i64 (k : Int)), (6, .int .i64 n), (0, .str s), (5, .bool ng)])
      (s0 := [(4, .int .i64 (i0 : Int)), (6, .int .i64 0), (0, .str s), (5, .bool ng)]) ⟨rfl, rfl, rfl, rfl, trivial⟩ ⟨i0, 0, rfl, hi0, by omega, by omega, rfl, rfl, rfl⟩ ?_
    rintro m σs σ ⟨k, n, rfl, hk, hn1, hn2, hp, rfl, rfl⟩
    by_cases h1 : k < s.length
    · have d1 : decide ((k : Int) < (s.length : Int)) = true := decide_eq_true (by omega)
      have x1 := get_str h1
      have hd := foldI_drop (n := n) h1
      have hl := lim_iff s[k] n
      have hli := lim_in s[k]
      have hdl := dOf_lt s[k]
      have hw := lim_wrap s[k]
      by_cases c : n < limI s[k]
      · have d2 : decide (n < limI s[k]) = true := decide_eq_true c
        repeat' first
          | refine .seq ?_ | refine .rg ?_ | refine .rd ?_ | refine .block ?_ | refine .scope ?_ | refine .skip ?_ | refine .label ?_ | refine .exit ?_ | refine .ret ?_
          | refine .ct ?_ | refine .cf ?_ | refine .cy ?_ | refine .cn ?_ | (refine .cond rfl ?_ ?_ <;> intro hc)
          | refine A.nil_seq ?_ | refine .nl ?_ | refine .dd ?_ | refine .ys ?_ | refine .no ?_ | (refine A.guard rfl ?_ ?_ <;> intro hc)
          | refine .lb ?_ | refine .ln ?_ | refine .ls ?_ | refine .pv ?_ | refine .ix ?_ | refine .pt ?_ | refine .pf ?_ | refine .bx ?_ | refine .al ?_ | refine .st ?_ | refine .ad ?_ | refine .sb ?_ | refine .mf ?_ | refine .cl ?_ | refine .cw ?_ | refine .ck ?_
          | refine .is ?_ | refine A.sub rfl rfl ?_ | refine A.conv rfl rfl rfl rfl (conv_d _) ?_ | refine A.quo rfl rfl (by decide) hw ?_ | fail
        refine Fin.two rfl rfl (Weak.tup (WeakL.cons (Weak.undef _) (WeakL.cons (Weak.eq (congrArg AV.bool ?_)) (WeakL.refl _))))
        rw [hok, hp, hd, if_pos c]
      · have d2 : decide (n < limI s[k]) = false := decide_eq_false c
        have h10 : -9223372036854775808 + (dOf s[k] : Int) ≤ 10 * n := by
          have := mt hl.2 c
          omega
        repeat' first
          | refine .seq ?_ | refine .rg ?_ | refine .rd ?_ | refine .block ?_ | refine .scope ?_ | refine .skip ?_ | refine .label ?_ | refine .exit ?_ | refine .ret ?_
          | refine .ct ?_ | refine .cf ?_ | refine .cy ?_ | refine .cn ?_ | (refine .cond rfl ?_ ?_ <;> intro hc)
          | refine A.nil_seq ?_ | refine .nl ?_ | refine .dd ?_ | refine .ys ?_ | refine .no ?_ | (refine A.guard rfl ?_ ?_ <;> intro hc)
          | refine .lb ?_ | refine .ln ?_ | refine .ls ?_ | refine .pv ?_ | refine .ix ?_ | refine .pt ?_ | refine .pf ?_ | refine .bx ?_ | refine .al ?_ | refine .st ?_ | refine .ad ?_ | refine .sb ?_ | refine .mf ?_ | refine .cl ?_ | refine .cw ?_ | refine .ck ?_
          | refine .is ?_ | refine A.sub64 rfl rfl rfl (by omega) ?_ | refine A.sub rfl rfl ?_ | refine A.conv rfl rfl rfl rfl (conv_d _) ?_ | refine A.quo rfl rfl (by decide) hw ?_ | refine A.mul64 rfl rfl rfl (by omega) ?_ | fail
        refine ⟨s.length - (k + 1), by omega, [(4, .int .i64 ((k + 1 : Nat) : Int)), (6, .int .i64 (10 * n - (dOf s[k] : Int))), (0, .str s), (5, .bool ng)], ⟨rfl, rfl, rfl, rfl, trivial⟩, by simp [belowS, AV.low], rfl, k + 1, 10 * n - (dOf s[k] : Int), rfl, by omega, by omega, by omega, by rw [hp, hd, if_neg c], rfl, rfl⟩
    · have d1 : decide ((k : Int) < (s.length : Int)) = false := decide_eq_false (by omega)
      have hend : foldI 0 (s.drop i0) = some n := by rw [hp, List.drop_eq_nil_of_le (by omega), foldI]
      rw [hend] at hok
      cases hg : ng with
      | true =>
        subst hg
        repeat' first
          | refine .seq ?_ | refine .rg ?_ | refine .rd ?_ | refine .block ?_ | refine .scope ?_ | refine .skip ?_ | refine .label ?_ | refine .exit ?_ | refine .ret ?_
          | refine .ct ?_ | refine .cf ?_ | refine .cy ?_ | refine .cn ?_ | (refine .cond rfl ?_ ?_ <;> intro hc)
          | refine A.nil_seq ?_ | refine .nl ?_ | refine .dd ?_ | refine .ys ?_ | refine .no ?_ | (refine A.guard rfl ?_ ?_ <;> intro hc)
          | refine .lb ?_ | refine .ln ?_ | refine .ls ?_ | refine .pv ?_ | refine .ix ?_ | refine .pt ?_ | refine .pf ?_ | refine .bx ?_ | refine .al ?_ | refine .st ?_ | refine .ad ?_ | refine .sb ?_ | refine .mf ?_ | refine .cl ?_ | refine .cw ?_ | refine .ck ?_ | fail
        refine Fin.two rfl rfl (Weak.tup (WeakL.cons (Weak.undef _) (WeakL.cons (Weak.eq (congrArg AV.bool ?_)) (WeakL.refl _))))
        rw [hok]; rfl
      | false =>
        subst hg
        simp only [Bool.false_or] at hok
        by_cases c : n = -9223372036854775808
        · have e1 : (n == -9223372036854775808) = true := beq_yes c
          repeat' first
            | refine .seq ?_ | refine .rg ?_ | refine .rd ?_ | refine .block ?_ | refine .scope ?_ | refine .skip ?_ | refine .label ?_ | refine .exit ?_ | refine .ret ?_
            | refine .ct ?_ | refine .cf ?_ | refine .cy ?_ | refine .cn ?_ | (refine .cond rfl ?_ ?_ <;> intro hc)
            | refine A.nil_seq ?_ | refine .nl ?_ | refine .dd ?_ | refine .ys ?_ | refine .no ?_ | (refine A.guard rfl ?_ ?_ <;> intro hc)
            | refine .lb ?_ | refine .ln ?_ | refine .ls ?_ | refine .pv ?_ | refine .ix ?_ | refine .pt ?_ | refine .pf ?_ | refine .bx ?_ | refine .al ?_ | refine .st ?_ | refine .ad ?_ | refine .sb ?_ | refine .mf ?_ | refine .cl ?_ | refine .cw ?_ | refine .ck ?_ | fail
          refine Fin.two rfl rfl (Weak.tup (WeakL.cons (Weak.undef _) (WeakL.cons (Weak.eq (congrArg AV.bool ?_)) (WeakL.refl _))))
          rw [hok, c]; rfl
        · have e1 : (n == -9223372036854775808) = false := beq_no c
          repeat' first
            | refine .seq ?_ | refine .rg ?_ | refine .rd ?_ | refine .block ?_ | refine .scope ?_ | refine .skip ?_ | refine .label ?_ | refine .exit ?_ | refine .ret ?_
            | refine .ct ?_ | refine .cf ?_ | refine .cy ?_ | refine .cn ?_ | (refine .cond rfl ?_ ?_ <;> intro hc)
            | refine A.nil_seq ?_ | refine .nl ?_ | refine .dd ?_ | refine .ys ?_ | refine .no ?_ | (refine A.guard rfl ?_ ?_ <;> intro hc)
            | refine .lb ?_ | refine .ln ?_ | refine .ls ?_ | refine .pv ?_ | refine .ix ?_ | refine .pt ?_ | refine .pf ?_ | refine .bx ?_ | refine .al ?_ | refine .st ?_ | refine .ad ?_ | refine .sb ?_ | refine .mf ?_ | refine .cl ?_ | refine .cw ?_ | refine .ck ?_
            | refine A.neg rfl (IntWalk.i64_in _ (by omega)) ?_ | fail
          refine Fin.two rfl rfl (Weak.tup (WeakL.cons (Weak.undef _) (WeakL.cons (Weak.eq (congrArg AV.bool ?_)) (WeakL.refl _))))
          rw [hok, bne, e1]; rfl
  by_cases h0 : s = []
  · have hl := loop 0 false (by omega) (by rw [h0]; rfl) (by rw [h0]; rfl)
    subst h0
    repeat' first
      | (refine HCode.weaken hl ?_; exact ⟨rfl, rfl, rfl, rfl, trivial⟩)
      | refine .seq ?_ | refine .rg ?_ | refine .rd ?_ | refine .block ?_ | refine .scope ?_ | refine .skip ?_ | refine .label ?_ | refine .exit ?_ | refine .ret ?_
      | refine .ct ?_ | refine .cf ?_ | refine .cy ?_ | refine .cn ?_ | (refine .cond rfl ?_ ?_ <;> intro hc)
      | refine A.nil_seq ?_ | refine .nl ?_ | refine .dd ?_ | refine .ys ?_ | refine .no ?_ | (refine A.guard rfl ?_ ?_ <;> intro hc)
      | refine .lb ?_ | refine .ln ?_ | refine .ls ?_ | refine .pv ?_ | refine .ix ?_ | refine .pt ?_ | refine .pf ?_ | refine .bx ?_ | refine .al ?_ | refine .st ?_ | refine .ad ?_ | refine .sb ?_ | refine .mf ?_ | refine .cl ?_ | refine .cw ?_ | refine .ck ?_ | fail
  · have e0 : (s != []) = true := by simpa using h0
    have hlen : 0 < s.length := List.length_pos_iff.2 h0
    have x0 := get_str hlen
    have hh : s.head? = some s[0] := by cases s with
      | nil => exact absurd rfl h0
      | cons c r => rfl
    by_cases q : s[0] = 45
    · have e1 : ((s[0].toNat : Int) == 45) = true := by rw [q]; rfl
      have hng : negI s = true := by unfold negI; rw [hh, q]; rfl
      have hl := loop 1 true (by omega) hng (by rw [if_pos hng])
      repeat' first
        | (refine HCode.weaken hl ?_; exact ⟨rfl, rfl, rfl, rfl, trivial⟩)
        | refine .seq ?_ | refine .rg ?_ | refine .rd ?_ | refine .block ?_ | refine .scope ?_ | refine .skip ?_ | refine .label ?_ | refine .exit ?_ | refine .ret ?_
        | refine .ct ?_ | refine .cf ?_ | refine .cy ?_ | refine .cn ?_ | (refine .cond rfl ?_ ?_ <;> intro hc)
        | refine A.nil_seq ?_ | refine .nl ?_ | refine .dd ?_ | refine .ys ?_ | refine .no ?_ | (refine A.guard rfl ?_ ?_ <;> intro hc)
        | refine .lb ?_ | refine .ln ?_ | refine .ls ?_ | refine .pv ?_ | refine .ix ?_ | refine .pt ?_ | refine .pf ?_ | refine .bx ?_ | refine .al ?_ | refine .st ?_ | refine .ad ?_ | refine .sb ?_ | refine .mf ?_ | refine .cl ?_ | refine .cw ?_ | refine .ck ?_
        | refine A.index_s (j := 0) rfl rfl rfl rfl rfl (by assumption) ?_ | fail
    · have e1 : ((s[0].toNat : Int) == 45) = false := beq_no (fun h => q (UInt8.toNat_inj.1 (by
        have : s[0].toNat = 45 := by omega
        rw [this]; rfl)))
      have hng : negI s = false := by unfold negI; rw [hh]; simpa using q
      have hl := loop 0 false (by omega) hng (by rw [if_neg (by rw [hng]; decide)]; rfl)
      repeat' first
        | (refine HCode.weaken hl ?_; exact ⟨rfl, rfl, rfl, rfl, trivial⟩)
        | refine .seq ?_ | refine .rg ?_ | refine .rd ?_ | refine .block ?_ | refine .scope ?_ | refine .skip ?_ | refine .label ?_ | refine .exit ?_ | refine .ret ?_
        | refine .ct ?_ | refine .cf ?_ | refine .cy ?_ | refine .cn ?_ | (refine .cond rfl ?_ ?_ <;> intro hc)
        | refine A.nil_seq ?_ | refine .nl ?_ | refine .dd ?_ | refine .ys ?_ | refine .no ?_ | (refine A.guard rfl ?_ ?_ <;> intro hc)
        | refine .lb ?_ | refine .ln ?_ | refine .ls ?_ | refine .pv ?_ | refine .ix ?_ | refine .pt ?_ | refine .pf ?_ | refine .bx ?_ | refine .al ?_ | refine .st ?_ | refine .ad ?_ | refine .sb ?_ | refine .mf ?_ | refine .cl ?_ | refine .cw ?_ | refine .ck ?_
        | refine A.index_s (j := 0) rfl rfl rfl rfl rfl (by assumption) ?_ | fail

/-! Plain: where a text is a whole number, the page's Int64 and the library's ParseInt agree; the page's good values. -/
section
theorem digs_all : ∀ l : Str, digs l = l.length → ∀ c ∈ l, digC c = true
  | [], _, c, h => by simp at h
  | x :: l, h, c, hc => by
    rw [digs] at h
    by_cases e : digC x = true
    · rw [if_pos e] at h
      have h' : digs l = l.length := by simpa using h
      rcases List.mem_cons.1 hc with rfl | hc
      · exact e
      · exact digs_all l h' c hc
    · rw [if_neg e] at h; simp at h
theorem num_whole {s : Str} (h : numOf s = 3) : wholeN s = s.length ∧ wholeN s ≠ 0 := by
  unfold numOf at h
  by_cases c : (numK s).1 = s.length
  · rw [if_pos c] at h
    rw [numK_eq] at c h
    by_cases w : wholeN s = 0
    · rw [if_pos w] at h; simp at h
    · rw [if_neg w] at c h
      refine ⟨?_, w⟩
      unfold expN at c h
      split at c
      · rename_i hp
        rw [if_pos hp] at h
        simp only at c h
        unfold dotN at c h
        split at c
        · rename_i hq
          rw [if_pos hq] at h
          split at c
          · rename_i hz
            exact c
          · rename_i hz
            rw [if_neg hz] at h; simp at h
        · exact c
      · rename_i hp
        rw [if_neg hp] at h; simp at h
  · rw [if_neg c] at h; simp at h
theorem whole_digits {s : Str} {n : Nat} (h : wholeAt s n = s.length) (h0 : s.length ≠ 0) : s.drop n ≠ [] ∧ ∀ c ∈ s.drop n, digC c = true := by
  unfold wholeAt at h
  split at h
  · exact absurd h.symm h0
  · rename_i hd
    have hle := digs_le (s.drop n)
    rw [List.length_drop] at hle
    refine ⟨fun e => ?_, ?_⟩
    · rw [e] at hd; exact hd rfl
    · split at h
      · rename_i hz
        have hn : n < s.length := by omega
        have e1 : s.drop n = [s[n]] := by rw [List.drop_eq_getElem_cons hn, List.drop_eq_nil_of_le (by omega)]
        have e2 : s[n] = 48 := by rw [get_str hn] at hz; exact Option.some.inj hz
        rw [e1, e2]
        intro c hc
        simp at hc; subst hc; decide
      · exact digs_all _ (by rw [List.length_drop]; omega)
def valD (acc : Nat) (l : Str) : Nat := l.foldl (fun a c => a * 10 + (c.toNat - 48)) acc
theorem valD_nil (acc : Nat) : valD acc [] = acc := rfl
theorem valD_cons (acc : Nat) (c : UInt8) (r : Str) : valD acc (c :: r) = valD (acc * 10 + (c.toNat - 48)) r := by unfold valD; rw [List.foldl_cons]
theorem valD_ge (l : Str) (acc : Nat) : acc ≤ valD acc l := by
  induction l generalizing acc with
  | nil => rw [valD_nil]; exact Nat.le_refl _
  | cons c r ih =>
    have := ih (acc * 10 + (c.toNat - 48))
    rw [valD_cons]; omega
theorem digC_iff {c : UInt8} : digC c = true ↔ 48 ≤ c.toNat ∧ c.toNat ≤ 57 := by simp [digC]
theorem dOf_dig {c : UInt8} (h : digC c = true) : dOf c = c.toNat - 48 := by
  have := digC_iff.1 h
  unfold dOf; omega
theorem foldI_digits : ∀ (l : Str) (acc : Nat), (∀ c ∈ l, digC c = true) → acc ≤ 9223372036854775808 → foldI (-(acc : Int)) l = if valD acc l ≤ 9223372036854775808 then some (-(valD acc l : Int)) else none
  | [], acc, _, ha => by rw [foldI, valD_nil, if_pos ha]
  | c :: r, acc, h, ha => by
    have hc := h c (by simp)
    have hd := dOf_dig hc
    have hl := lim_iff c (-(acc : Int))
    have hg := valD_ge r (acc * 10 + (c.toNat - 48))
    rw [foldI, valD_cons]
    by_cases k : -(acc : Int) < limI c
    · rw [if_pos k]
      have := hl.1 k
      rw [if_neg (by omega)]
    · rw [if_neg k]
      have := mt hl.2 k
      have e : 10 * -(acc : Int) - (dOf c : Int) = -((acc * 10 + (c.toNat - 48) : Nat) : Int) := by omega
      rw [e, foldI_digits r _ (fun x hx => h x (List.mem_cons_of_mem _ hx)) (by omega)]
theorem parseM_digits : ∀ (l : Str) (acc : Nat), (∀ c ∈ l, digC c = true) → acc ≤ 18446744073709551615 → Lib.parseUintM 18446744073709551615 acc l = if valD acc l ≤ 18446744073709551615 then .ok (valD acc l) else .range
  | [], acc, _, ha => by rw [Lib.parseUintM, valD_nil, if_pos ha]
  | c :: r, acc, h, ha => by
    have hc := digC_iff.1 (h c (by simp))
    have hg := valD_ge r (acc * 10 + (c.toNat - 48))
    rw [Lib.parseUintM, valD_cons, if_pos hc]
    by_cases k : 1844674407370955162 ≤ acc
    · rw [if_pos k, if_neg (by omega)]
    · rw [if_neg k]
      by_cases k2 : 18446744073709551615 < acc * 10 + (c.toNat - 48)
      · rw [if_pos k2, if_neg (by omega)]
      · rw [if_neg k2, parseM_digits r _ (fun x hx => h x (List.mem_cons_of_mem _ hx)) (by omega)]
theorem parseU_digits {l : Str} (hne : l ≠ []) (h : ∀ c ∈ l, digC c = true) : Lib.parseUintB 64 l = if valD 0 l ≤ 18446744073709551615 then .ok (valD 0 l) else .range := by
  rw [Lib.parseUintB, if_neg hne]
  exact parseM_digits l 0 h (by omega)
theorem int_ok {s : Str} (h : numOf s = 3) : i64ok s = intIs s := by
  obtain ⟨hw, h0⟩ := num_whole h
  cases s with
  | nil => simp at hw; exact absurd hw h0
  | cons c r =>
    rw [wholeN, pfx_cons] at hw
    by_cases q : c = 45
    · subst q
      rw [if_pos (by decide)] at hw
      obtain ⟨hne, hd⟩ := whole_digits hw (by simp)
      have hne' : r ≠ [] := hne
      have hd' : ∀ x ∈ r, digC x = true := hd
      have hng : negI (45 :: r) = true := rfl
      have hf := foldI_digits r 0 hd' (by omega)
      have hf' : foldI 0 r = if valD 0 r ≤ 9223372036854775808 then some (-(valD 0 r : Int)) else none := hf
      unfold i64ok intIs
      rw [hng, if_pos rfl, Lib.parseIntB_minus, parseU_digits hne' hd']
      show (match foldI 0 r with | none => false | some n => true || n != -9223372036854775808) = _
      rw [hf']
      by_cases k : valD 0 r ≤ 9223372036854775808
      · rw [if_pos k, if_pos (by omega)]
        unfold Lib.signedC
        simp only [Nat.reduceSub, Nat.reducePow]
        rw [if_neg (by omega)]; rfl
      · rw [if_neg k]
        by_cases k2 : valD 0 r ≤ 18446744073709551615
        · rw [if_pos k2]
          unfold Lib.signedC
          simp only [Nat.reduceSub, Nat.reducePow]
          rw [if_pos (by omega)]
        · rw [if_neg k2]; rfl
    · have hq : (c == 45) = false := by simpa using q
      rw [hq, if_neg (by decide)] at hw
      obtain ⟨hne, hd⟩ := whole_digits hw (by simp)
      have hne' : (c :: r) ≠ [] := by simp
      have hd' : ∀ x ∈ (c :: r), digC x = true := hd
      have hc := digC_iff.1 (hd' c (by simp))
      have hng : negI (c :: r) = false := by unfold negI; simpa using q
      have hf := foldI_digits (c :: r) 0 hd' (by omega)
      have hf' : foldI 0 (c :: r) = if valD 0 (c :: r) ≤ 9223372036854775808 then some (-(valD 0 (c :: r) : Int)) else none := hf
      unfold i64ok intIs
      rw [hng, if_neg (by decide), Lib.parseIntB_plain 64 c r (by omega) (by omega), parseU_digits hne' hd', hf']
      generalize valD 0 (c :: r) = V
      by_cases k : V ≤ 9223372036854775808
      · rw [if_pos k, if_pos (by omega)]
        unfold Lib.signlessC
        simp only [Nat.reduceSub, Nat.reducePow]
        by_cases k3 : 9223372036854775808 ≤ V
        · rw [if_pos k3]
          have : (V : Int) = 9223372036854775808 := by omega
          rw [this]; rfl
        · rw [if_neg k3]
          simp; omega
      · rw [if_neg k]
        by_cases k2 : V ≤ 18446744073709551615
        · rw [if_pos k2]
          unfold Lib.signlessC
          simp only [Nat.reduceSub, Nat.reducePow]
          rw [if_pos (by omega)]
        · rw [if_neg k2]; rfl
theorem num_cases (s : Str) : numOf s = 0 ∨ numOf s = 3 ∨ numOf s = 4 := by
  unfold numOf
  split
  · rw [numK_eq]
    split
    · exact .inl rfl
    · unfold expN
      split
      · unfold dotN
        split
        · split
          · exact .inr (.inl rfl)
          · exact .inr (.inr rfl)
        · exact .inr (.inl rfl)
      · exact .inr (.inr rfl)
  · exact .inl rfl
theorem num_nil : numOf [] = 0 := rfl
theorem numB_eq (s : Str) : numB s = if s = [] ∨ numOf s = 0 then false else (numOf s == 4 || !i64ok s) := by
  unfold numB
  by_cases h0 : s = []
  · subst h0; rw [if_pos (.inl rfl), num_nil]; rfl
  · rcases num_cases s with h | h | h
    · rw [if_pos (.inr h), h]; rfl
    · rw [if_neg (fun e => e.elim h0 (fun e0 => by omega)), int_ok h, h]; simp
    · rw [if_neg (fun e => e.elim h0 (fun e0 => by omega)), h]; simp
end
end Go.Proofs.YtpidjkihngiaoaaGreatDoor
namespace Go.Proofs.YtpidjkihngiaoaaGreatDoor
open Go Go.Av
set_option maxRecDepth 100000
set_option maxHeartbeats 32000000
set_option linter.unusedVariables false
set_option linter.unusedSimpArgs false
attribute [local irreducible] HCode AOps PFn AFn Av.Step TStep

def decN (n : Nat) : Bool := decide (n = 0)
theorem rgv0 (v : Val) (hv : v.size ≤ 1048576) (k : v.kind = 0) (dl : decide ((0 : Int) < (v.lv.length : Int)) = !decide (v.l.length = 0)) (dm : decide ((0 : Int) < (v.mv.length : Int)) = !decide (v.m.length = 0)) : PFn Tryz.prog 54 [v.enc] (.bool (allV good v)) := by
  have hsz := v.size_eq
  have g4 := rGood v.s (by omega)
  have g5 := rName v.s (by omega)
  have g3 := rNumber v.s (by omega)
  have gi := rInt64 v.s (by omega)
  have u0 : (v.kind == 0) = true := by rw [k]; rfl
  have u1 : (v.kind == 1) = false := by rw [k]; rfl
  have u2 : (v.kind == 2) = false := by rw [k]; rfl
  have u3 : (v.kind == 3) = false := by rw [k]; rfl
  have u4 : (v.kind == 4) = false := by rw [k]; rfl
  have u5 : (v.kind == 5) = false := by rw [k]; rfl
  have u6 : (v.kind == 6) = false := by rw [k]; rfl
  have u7 : (v.kind == 7) = false := by rw [k]; rfl
  have u8 : (v.kind == 8) = false := by rw [k]; rfl
  have w1 : (v.kind != 1) = true := by rw [k]; rfl
  have w2 : (v.kind != 2) = true := by rw [k]; rfl
  have w6 : (v.kind != 6) = true := by rw [k]; rfl
  have w7 : (v.kind != 7) = true := by rw [k]; rfl
  refine AFn.plain rfl (by simp [AV.closedL, Val.closed]) (AFn.enter [2] Tryz.func54 rfl rfl rfl rfl rfl (by decide) ?_)
  rw [allV_eq, if_neg (by omega), if_neg (by omega)]
  unfold singleB
  rw [if_pos k]
  repeat' first
    | refine .br ?_
    | refine .seq ?_ | refine .rg ?_ | refine .rd ?_ | refine .block ?_ | refine .scope ?_ | refine .skip ?_ | refine .label ?_ | refine .exit ?_ | refine .ret ?_
    | refine .ct ?_ | refine .cf ?_ | refine .cy ?_ | refine .cn ?_ | (refine .cond rfl ?_ ?_ <;> intro hc)
    | refine A.nil_seq ?_ | refine .nl ?_ | refine .dd ?_ | refine .ys ?_ | refine .no ?_ | (refine A.guard rfl ?_ ?_ <;> intro hc)
    | refine .lb ?_ | refine .ln ?_ | refine .ls ?_ | refine .pv ?_ | refine .ix ?_ | refine .pt ?_ | refine .pf ?_ | refine .bx ?_ | refine .al ?_ | refine .st ?_ | refine .ad ?_ | refine .sb ?_ | refine .mf ?_ | refine .cl ?_ | refine .cw ?_ | refine .ck ?_ | fail
  all_goals
    refine Fin.ret1 rfl (Weak.eq (congrArg AV.bool ?_))
    first | (simp_all; done) | (simp_all [bne]; done)
theorem rgv1 (v : Val) (hv : v.size ≤ 1048576) (k : v.kind = 1) (dl : decide ((0 : Int) < (v.lv.length : Int)) = !decide (v.l.length = 0)) (dm : decide ((0 : Int) < (v.mv.length : Int)) = !decide (v.m.length = 0)) : PFn Tryz.prog 54 [v.enc] (.bool (allV good v)) := by
  have hsz := v.size_eq
  have g4 := rGood v.s (by omega)
  have g5 := rName v.s (by omega)
  have g3 := rNumber v.s (by omega)
  have gi := rInt64 v.s (by omega)
  have u0 : (v.kind == 0) = false := by rw [k]; rfl
  have u1 : (v.kind == 1) = true := by rw [k]; rfl
  have u2 : (v.kind == 2) = false := by rw [k]; rfl
  have u3 : (v.kind == 3) = false := by rw [k]; rfl
  have u4 : (v.kind == 4) = false := by rw [k]; rfl
  have u5 : (v.kind == 5) = false := by rw [k]; rfl
  have u6 : (v.kind == 6) = false := by rw [k]; rfl
  have u7 : (v.kind == 7) = false := by rw [k]; rfl
  have u8 : (v.kind == 8) = false := by rw [k]; rfl
  have w1 : (v.kind != 1) = false := by rw [k]; rfl
  have w2 : (v.kind != 2) = true := by rw [k]; rfl
  have w6 : (v.kind != 6) = true := by rw [k]; rfl
  have w7 : (v.kind != 7) = true := by rw [k]; rfl
  refine AFn.plain rfl (by simp [AV.closedL, Val.closed]) (AFn.enter [2] Tryz.func54 rfl rfl rfl rfl rfl (by decide) ?_)
  rw [allV_eq, if_neg (by omega), if_neg (by omega)]
  unfold singleB
  rw [if_neg (show ¬ v.kind = 0 by omega)]
  rw [if_pos k]
  repeat' first
    | refine .br ?_
    | refine .seq ?_ | refine .rg ?_ | refine .rd ?_ | refine .block ?_ | refine .scope ?_ | refine .skip ?_ | refine .label ?_ | refine .exit ?_ | refine .ret ?_
    | refine .ct ?_ | refine .cf ?_ | refine .cy ?_ | refine .cn ?_ | (refine .cond rfl ?_ ?_ <;> intro hc)
    | refine A.nil_seq ?_ | refine .nl ?_ | refine .dd ?_ | refine .ys ?_ | refine .no ?_ | (refine A.guard rfl ?_ ?_ <;> intro hc)
    | refine .lb ?_ | refine .ln ?_ | refine .ls ?_ | refine .pv ?_ | refine .ix ?_ | refine .pt ?_ | refine .pf ?_ | refine .bx ?_ | refine .al ?_ | refine .st ?_ | refine .ad ?_ | refine .sb ?_ | refine .mf ?_ | refine .cl ?_ | refine .cw ?_ | refine .ck ?_ | fail
  all_goals
    refine Fin.ret1 rfl (Weak.eq (congrArg AV.bool ?_))
    first | (simp_all; done) | (simp_all [bne]; done)
theorem rgv2 (v : Val) (hv : v.size ≤ 1048576) (k : v.kind = 2) (dl : decide ((0 : Int) < (v.lv.length : Int)) = !decide (v.l.length = 0)) (dm : decide ((0 : Int) < (v.mv.length : Int)) = !decide (v.m.length = 0)) : PFn Tryz.prog 54 [v.enc] (.bool (allV good v)) := by
  have hsz := v.size_eq
  have g4 := rGood v.s (by omega)
  have g5 := rName v.s (by omega)
  have g3 := rNumber v.s (by omega)
  have gi := rInt64 v.s (by omega)
  have u0 : (v.kind == 0) = false := by rw [k]; rfl
  have u1 : (v.kind == 1) = false := by rw [k]; rfl
  have u2 : (v.kind == 2) = true := by rw [k]; rfl
  have u3 : (v.kind == 3) = false := by rw [k]; rfl
  have u4 : (v.kind == 4) = false := by rw [k]; rfl
  have u5 : (v.kind == 5) = false := by rw [k]; rfl
  have u6 : (v.kind == 6) = false := by rw [k]; rfl
  have u7 : (v.kind == 7) = false := by rw [k]; rfl
  have u8 : (v.kind == 8) = false := by rw [k]; rfl
  have w1 : (v.kind != 1) = true := by rw [k]; rfl
  have w2 : (v.kind != 2) = false := by rw [k]; rfl
  have w6 : (v.kind != 6) = true := by rw [k]; rfl
  have w7 : (v.kind != 7) = true := by rw [k]; rfl
  refine AFn.plain rfl (by simp [AV.closedL, Val.closed]) (AFn.enter [2] Tryz.func54 rfl rfl rfl rfl rfl (by decide) ?_)
  rw [allV_eq, if_neg (by omega), if_neg (by omega)]
  unfold singleB
  rw [if_neg (show ¬ v.kind = 0 by omega)]
  rw [if_neg (show ¬ v.kind = 1 by omega)]
  rw [if_pos k]
  repeat' first
    | refine .br ?_
    | refine .seq ?_ | refine .rg ?_ | refine .rd ?_ | refine .block ?_ | refine .scope ?_ | refine .skip ?_ | refine .label ?_ | refine .exit ?_ | refine .ret ?_
    | refine .ct ?_ | refine .cf ?_ | refine .cy ?_ | refine .cn ?_ | (refine .cond rfl ?_ ?_ <;> intro hc)
    | refine A.nil_seq ?_ | refine .nl ?_ | refine .dd ?_ | refine .ys ?_ | refine .no ?_ | (refine A.guard rfl ?_ ?_ <;> intro hc)
    | refine .lb ?_ | refine .ln ?_ | refine .ls ?_ | refine .pv ?_ | refine .ix ?_ | refine .pt ?_ | refine .pf ?_ | refine .bx ?_ | refine .al ?_ | refine .st ?_ | refine .ad ?_ | refine .sb ?_ | refine .mf ?_ | refine .cl ?_ | refine .cw ?_ | refine .ck ?_ | fail
  all_goals
    refine Fin.ret1 rfl (Weak.eq (congrArg AV.bool ?_))
    first | (simp_all; done) | (simp_all [bne]; done)
theorem rgv3 (v : Val) (hv : v.size ≤ 1048576) (k : v.kind = 3) (dl : decide ((0 : Int) < (v.lv.length : Int)) = !decide (v.l.length = 0)) (dm : decide ((0 : Int) < (v.mv.length : Int)) = !decide (v.m.length = 0)) : PFn Tryz.prog 54 [v.enc] (.bool (allV good v)) := by
  have hsz := v.size_eq
  have g4 := rGood v.s (by omega)
  have g5 := rName v.s (by omega)
  have g3 := rNumber v.s (by omega)
  have gi := rInt64 v.s (by omega)
  have u0 : (v.kind == 0) = false := by rw [k]; rfl
  have u1 : (v.kind == 1) = false := by rw [k]; rfl
  have u2 : (v.kind == 2) = false := by rw [k]; rfl
  have u3 : (v.kind == 3) = true := by rw [k]; rfl
  have u4 : (v.kind == 4) = false := by rw [k]; rfl
  have u5 : (v.kind == 5) = false := by rw [k]; rfl
  have u6 : (v.kind == 6) = false := by rw [k]; rfl
  have u7 : (v.kind == 7) = false := by rw [k]; rfl
  have u8 : (v.kind == 8) = false := by rw [k]; rfl
  have w1 : (v.kind != 1) = true := by rw [k]; rfl
  have w2 : (v.kind != 2) = true := by rw [k]; rfl
  have w6 : (v.kind != 6) = true := by rw [k]; rfl
  have w7 : (v.kind != 7) = true := by rw [k]; rfl
  refine AFn.plain rfl (by simp [AV.closedL, Val.closed]) (AFn.enter [2] Tryz.func54 rfl rfl rfl rfl rfl (by decide) ?_)
  rw [allV_eq, if_neg (by omega), if_neg (by omega)]
  unfold singleB
  rw [if_neg (show ¬ v.kind = 0 by omega)]
  rw [if_neg (show ¬ v.kind = 1 by omega)]
  rw [if_neg (show ¬ v.kind = 2 by omega)]
  rw [if_pos k]
  rw [numB_eq]
  repeat' first
    | refine .br ?_
    | refine .seq ?_ | refine .rg ?_ | refine .rd ?_ | refine .block ?_ | refine .scope ?_ | refine .skip ?_ | refine .label ?_ | refine .exit ?_ | refine .ret ?_
    | refine .ct ?_ | refine .cf ?_ | refine .cy ?_ | refine .cn ?_ | (refine .cond rfl ?_ ?_ <;> intro hc)
    | refine A.nil_seq ?_ | refine .nl ?_ | refine .dd ?_ | refine .ys ?_ | refine .no ?_ | (refine A.guard rfl ?_ ?_ <;> intro hc)
    | refine .lb ?_ | refine .ln ?_ | refine .ls ?_ | refine .pv ?_ | refine .ix ?_ | refine .pt ?_ | refine .pf ?_ | refine .bx ?_ | refine .al ?_ | refine .st ?_ | refine .ad ?_ | refine .sb ?_ | refine .mf ?_ | refine .cl ?_ | refine .cw ?_ | refine .ck ?_ | fail
  all_goals
    refine Fin.ret1 rfl (Weak.eq (congrArg AV.bool ?_))
    first | (simp_all; done) | (simp_all [bne]; done)
theorem rgv4 (v : Val) (hv : v.size ≤ 1048576) (k : v.kind = 4) (dl : decide ((0 : Int) < (v.lv.length : Int)) = !decide (v.l.length = 0)) (dm : decide ((0 : Int) < (v.mv.length : Int)) = !decide (v.m.length = 0)) : PFn Tryz.prog 54 [v.enc] (.bool (allV good v)) := by
  have hsz := v.size_eq
  have g4 := rGood v.s (by omega)
  have g5 := rName v.s (by omega)
  have g3 := rNumber v.s (by omega)
  have gi := rInt64 v.s (by omega)
  have u0 : (v.kind == 0) = false := by rw [k]; rfl
  have u1 : (v.kind == 1) = false := by rw [k]; rfl
  have u2 : (v.kind == 2) = false := by rw [k]; rfl
  have u3 : (v.kind == 3) = false := by rw [k]; rfl
  have u4 : (v.kind == 4) = true := by rw [k]; rfl
  have u5 : (v.kind == 5) = false := by rw [k]; rfl
  have u6 : (v.kind == 6) = false := by rw [k]; rfl
  have u7 : (v.kind == 7) = false := by rw [k]; rfl
  have u8 : (v.kind == 8) = false := by rw [k]; rfl
  have w1 : (v.kind != 1) = true := by rw [k]; rfl
  have w2 : (v.kind != 2) = true := by rw [k]; rfl
  have w6 : (v.kind != 6) = true := by rw [k]; rfl
  have w7 : (v.kind != 7) = true := by rw [k]; rfl
  refine AFn.plain rfl (by simp [AV.closedL, Val.closed]) (AFn.enter [2] Tryz.func54 rfl rfl rfl rfl rfl (by decide) ?_)
  rw [allV_eq, if_neg (by omega), if_neg (by omega)]
  unfold singleB
  rw [if_neg (show ¬ v.kind = 0 by omega)]
  rw [if_neg (show ¬ v.kind = 1 by omega)]
  rw [if_neg (show ¬ v.kind = 2 by omega)]
  rw [if_neg (show ¬ v.kind = 3 by omega)]
  rw [if_pos k]
  repeat' first
    | refine .br ?_
    | refine .seq ?_ | refine .rg ?_ | refine .rd ?_ | refine .block ?_ | refine .scope ?_ | refine .skip ?_ | refine .label ?_ | refine .exit ?_ | refine .ret ?_
    | refine .ct ?_ | refine .cf ?_ | refine .cy ?_ | refine .cn ?_ | (refine .cond rfl ?_ ?_ <;> intro hc)
    | refine A.nil_seq ?_ | refine .nl ?_ | refine .dd ?_ | refine .ys ?_ | refine .no ?_ | (refine A.guard rfl ?_ ?_ <;> intro hc)
    | refine .lb ?_ | refine .ln ?_ | refine .ls ?_ | refine .pv ?_ | refine .ix ?_ | refine .pt ?_ | refine .pf ?_ | refine .bx ?_ | refine .al ?_ | refine .st ?_ | refine .ad ?_ | refine .sb ?_ | refine .mf ?_ | refine .cl ?_ | refine .cw ?_ | refine .ck ?_ | fail
  all_goals
    refine Fin.ret1 rfl (Weak.eq (congrArg AV.bool ?_))
    first | (simp_all; done) | (simp_all [bne]; done)
theorem rgv5 (v : Val) (hv : v.size ≤ 1048576) (k : v.kind = 5) (dl : decide ((0 : Int) < (v.lv.length : Int)) = !decide (v.l.length = 0)) (dm : decide ((0 : Int) < (v.mv.length : Int)) = !decide (v.m.length = 0)) : PFn Tryz.prog 54 [v.enc] (.bool (allV good v)) := by
  have hsz := v.size_eq
  have g4 := rGood v.s (by omega)
  have g5 := rName v.s (by omega)
  have g3 := rNumber v.s (by omega)
  have gi := rInt64 v.s (by omega)
  have u0 : (v.kind == 0) = false := by rw [k]; rfl
  have u1 : (v.kind == 1) = false := by rw [k]; rfl
  have u2 : (v.kind == 2) = false := by rw [k]; rfl
  have u3 : (v.kind == 3) = false := by rw [k]; rfl
  have u4 : (v.kind == 4) = false := by rw [k]; rfl
  have u5 : (v.kind == 5) = true := by rw [k]; rfl
  have u6 : (v.kind == 6) = false := by rw [k]; rfl
  have u7 : (v.kind == 7) = false := by rw [k]; rfl
  have u8 : (v.kind == 8) = false := by rw [k]; rfl
  have w1 : (v.kind != 1) = true := by rw [k]; rfl
  have w2 : (v.kind != 2) = true := by rw [k]; rfl
  have w6 : (v.kind != 6) = true := by rw [k]; rfl
  have w7 : (v.kind != 7) = true := by rw [k]; rfl
  refine AFn.plain rfl (by simp [AV.closedL, Val.closed]) (AFn.enter [2] Tryz.func54 rfl rfl rfl rfl rfl (by decide) ?_)
  rw [allV_eq, if_neg (by omega), if_neg (by omega)]
  unfold singleB
  rw [if_neg (show ¬ v.kind = 0 by omega)]
  rw [if_neg (show ¬ v.kind = 1 by omega)]
  rw [if_neg (show ¬ v.kind = 2 by omega)]
  rw [if_neg (show ¬ v.kind = 3 by omega)]
  rw [if_neg (show ¬ v.kind = 4 by omega)]
  rw [if_pos k]
  unfold resB
  repeat' first
    | refine .br ?_
    | refine .seq ?_ | refine .rg ?_ | refine .rd ?_ | refine .block ?_ | refine .scope ?_ | refine .skip ?_ | refine .label ?_ | refine .exit ?_ | refine .ret ?_
    | refine .ct ?_ | refine .cf ?_ | refine .cy ?_ | refine .cn ?_ | (refine .cond rfl ?_ ?_ <;> intro hc)
    | refine A.nil_seq ?_ | refine .nl ?_ | refine .dd ?_ | refine .ys ?_ | refine .no ?_ | (refine A.guard rfl ?_ ?_ <;> intro hc)
    | refine .lb ?_ | refine .ln ?_ | refine .ls ?_ | refine .pv ?_ | refine .ix ?_ | refine .pt ?_ | refine .pf ?_ | refine .bx ?_ | refine .al ?_ | refine .st ?_ | refine .ad ?_ | refine .sb ?_ | refine .mf ?_ | refine .cl ?_ | refine .cw ?_ | refine .ck ?_ | fail
  all_goals
    refine Fin.ret1 rfl (Weak.eq (congrArg AV.bool ?_))
    first | (simp_all; done) | (simp_all [bne]; done)
theorem rgv8 (v : Val) (hv : v.size ≤ 1048576) (k : v.kind = 8) (dl : decide ((0 : Int) < (v.lv.length : Int)) = !decide (v.l.length = 0)) (dm : decide ((0 : Int) < (v.mv.length : Int)) = !decide (v.m.length = 0)) : PFn Tryz.prog 54 [v.enc] (.bool (allV good v)) := by
  have hsz := v.size_eq
  have g4 := rGood v.s (by omega)
  have g5 := rName v.s (by omega)
  have g3 := rNumber v.s (by omega)
  have gi := rInt64 v.s (by omega)
  have u0 : (v.kind == 0) = false := by rw [k]; rfl
  have u1 : (v.kind == 1) = false := by rw [k]; rfl
  have u2 : (v.kind == 2) = false := by rw [k]; rfl
  have u3 : (v.kind == 3) = false := by rw [k]; rfl
  have u4 : (v.kind == 4) = false := by rw [k]; rfl
  have u5 : (v.kind == 5) = false := by rw [k]; rfl
  have u6 : (v.kind == 6) = false := by rw [k]; rfl
  have u7 : (v.kind == 7) = false := by rw [k]; rfl
  have u8 : (v.kind == 8) = true := by rw [k]; rfl
  have w1 : (v.kind != 1) = true := by rw [k]; rfl
  have w2 : (v.kind != 2) = true := by rw [k]; rfl
  have w6 : (v.kind != 6) = true := by rw [k]; rfl
  have w7 : (v.kind != 7) = true := by rw [k]; rfl
  refine AFn.plain rfl (by simp [AV.closedL, Val.closed]) (AFn.enter [2] Tryz.func54 rfl rfl rfl rfl rfl (by decide) ?_)
  rw [allV_eq, if_neg (by omega), if_neg (by omega)]
  unfold singleB
  rw [if_neg (show ¬ v.kind = 0 by omega)]
  rw [if_neg (show ¬ v.kind = 1 by omega)]
  rw [if_neg (show ¬ v.kind = 2 by omega)]
  rw [if_neg (show ¬ v.kind = 3 by omega)]
  rw [if_neg (show ¬ v.kind = 4 by omega)]
  rw [if_neg (show ¬ v.kind = 5 by omega)]
  rw [if_pos k]
  repeat' first
    | refine .br ?_
    | refine .seq ?_ | refine .rg ?_ | refine .rd ?_ | refine .block ?_ | refine .scope ?_ | refine .skip ?_ | refine .label ?_ | refine .exit ?_ | refine .ret ?_
    | refine .ct ?_ | refine .cf ?_ | refine .cy ?_ | refine .cn ?_ | (refine .cond rfl ?_ ?_ <;> intro hc)
    | refine A.nil_seq ?_ | refine .nl ?_ | refine .dd ?_ | refine .ys ?_ | refine .no ?_ | (refine A.guard rfl ?_ ?_ <;> intro hc)
    | refine .lb ?_ | refine .ln ?_ | refine .ls ?_ | refine .pv ?_ | refine .ix ?_ | refine .pt ?_ | refine .pf ?_ | refine .bx ?_ | refine .al ?_ | refine .st ?_ | refine .ad ?_ | refine .sb ?_ | refine .mf ?_ | refine .cl ?_ | refine .cw ?_ | refine .ck ?_ | fail
  all_goals
    refine Fin.ret1 rfl (Weak.eq (congrArg AV.bool ?_))
    first | (simp_all; done) | (simp_all [bne]; done)
theorem rgvX (v : Val) (k : ¬ (v.kind = 0 ∨ v.kind = 1 ∨ v.kind = 2 ∨ v.kind = 3 ∨ v.kind = 4 ∨ v.kind = 5 ∨ v.kind = 6 ∨ v.kind = 7 ∨ v.kind = 8)) (dl : decide ((0 : Int) < (v.lv.length : Int)) = !decide (v.l.length = 0)) (dm : decide ((0 : Int) < (v.mv.length : Int)) = !decide (v.m.length = 0)) : PFn Tryz.prog 54 [v.enc] (.bool (allV good v)) := by
  simp only [not_or] at k
  obtain ⟨k0, k1, k2, k3, k4, k5, k6, k7, k8⟩ := k
  have u0 := beq_no k0
  have u1 := beq_no k1
  have u2 := beq_no k2
  have u3 := beq_no k3
  have u4 := beq_no k4
  have u5 := beq_no k5
  have u6 := beq_no k6
  have u7 := beq_no k7
  have u8 := beq_no k8
  have w1 : (v.kind != 1) = true := by simp [k1]
  have w2 : (v.kind != 2) = true := by simp [k2]
  have w6 : (v.kind != 6) = true := by simp [k6]
  have w7 : (v.kind != 7) = true := by simp [k7]
  refine AFn.plain rfl (by simp [AV.closedL, Val.closed]) (AFn.enter [2] Tryz.func54 rfl rfl rfl rfl rfl (by decide) ?_)
  rw [allV_eq, if_neg k6, if_neg k7]
  unfold singleB
  rw [if_neg k0, if_neg k1, if_neg k2, if_neg k3, if_neg k4, if_neg k5, if_neg k8, Bool.and_false]
  repeat' first
    | refine .br ?_
    | refine .seq ?_ | refine .rg ?_ | refine .rd ?_ | refine .block ?_ | refine .scope ?_ | refine .skip ?_ | refine .label ?_ | refine .exit ?_ | refine .ret ?_
    | refine .ct ?_ | refine .cf ?_ | refine .cy ?_ | refine .cn ?_ | (refine .cond rfl ?_ ?_ <;> intro hc)
    | refine A.nil_seq ?_ | refine .nl ?_ | refine .dd ?_ | refine .ys ?_ | refine .no ?_ | (refine A.guard rfl ?_ ?_ <;> intro hc)
    | refine .lb ?_ | refine .ln ?_ | refine .ls ?_ | refine .pv ?_ | refine .ix ?_ | refine .pt ?_ | refine .pf ?_ | refine .bx ?_ | refine .al ?_ | refine .st ?_ | refine .ad ?_ | refine .sb ?_ | refine .mf ?_ | refine .cl ?_ | refine .cw ?_ | refine .ck ?_ | fail
  all_goals exact Fin.ret1 rfl (Weak.refl _)
theorem rgv6 (v : Val) (hv : v.size ≤ 1048576) (k : v.kind = 6) (dl : decide ((0 : Int) < (v.lv.length : Int)) = !decide (v.l.length = 0)) (dm : decide ((0 : Int) < (v.mv.length : Int)) = !decide (v.m.length = 0)) (ih : ∀ x ∈ v.l, PFn Tryz.prog 54 [x.enc] (.bool (allV good x))) : PFn Tryz.prog 54 [v.enc] (.bool (allV good v)) := by
  have hsz := v.size_eq
  have hll := v.l_len
  have hml := v.m_len
  have u0 : (v.kind == 0) = false := by rw [k]; rfl
  have u1 : (v.kind == 1) = false := by rw [k]; rfl
  have u2 : (v.kind == 2) = false := by rw [k]; rfl
  have u3 : (v.kind == 3) = false := by rw [k]; rfl
  have u4 : (v.kind == 4) = false := by rw [k]; rfl
  have u5 : (v.kind == 5) = false := by rw [k]; rfl
  have u6 : (v.kind == 6) = true := by rw [k]; rfl
  have u7 : (v.kind == 7) = false := by rw [k]; rfl
  have u8 : (v.kind == 8) = false := by rw [k]; rfl
  have w1 : (v.kind != 1) = true := by rw [k]; rfl
  have w2 : (v.kind != 2) = true := by rw [k]; rfl
  have w6 : (v.kind != 6) = false := by rw [k]; rfl
  have w7 : (v.kind != 7) = true := by rw [k]; rfl
  refine AFn.plain rfl (by simp [AV.closedL, Val.closed]) (AFn.enter [2] Tryz.func54 rfl rfl rfl rfl rfl (by decide) ?_)
  rw [allV_eq, if_pos k]
  by_cases cn : v.n = 0
  · have en : (v.n != 0) = false := by simp [cn]
    by_cases cm : v.m.length = 0
    · have em : decide ((0 : Int) < (v.mv.length : Int)) = false := by rw [dm]; simp [cm]
      by_cases cs : v.s = []
      · have es : (v.s != []) = false := by simp [cs]
        have hall : (allL good v.l && (v.n == 0 && v.s == [] && decide (v.m.length = 0))) = allL good v.l := by simp [cn, cm, cs]
        rw [hall]
        repeat' first
          | refine .br ?_
          | refine .seq ?_ | refine .rg ?_ | refine .rd ?_ | refine .block ?_ | refine .scope ?_ | refine .skip ?_ | refine .label ?_ | refine .exit ?_ | refine .ret ?_
          | refine .ct ?_ | refine .cf ?_ | refine .cy ?_ | refine .cn ?_ | (refine .cond rfl ?_ ?_ <;> intro hc)
          | refine A.nil_seq ?_ | refine .nl ?_ | refine .dd ?_ | refine .ys ?_ | refine .no ?_ | (refine A.guard rfl ?_ ?_ <;> intro hc)
          | refine .lb ?_ | refine .ln ?_ | refine .ls ?_ | refine .pv ?_ | refine .ix ?_ | refine .pt ?_ | refine .pf ?_ | refine .bx ?_ | refine .al ?_ | refine .st ?_ | refine .ad ?_ | refine .sb ?_ | refine .mf ?_ | refine .cl ?_ | refine .cw ?_ | refine .ck ?_ | fail
        refine HCode.forK v.l.length (fun j => [(6, .int .i64 j), (1, .rptr v.enc)]) (fun _ => ⟨[], []⟩) (fun j => allL good v.l = allL good (v.l.drop j)) ⟨rfl, rfl, trivial⟩ rfl rfl fun j hj hp => ?_
        by_cases h1 : j < v.l.length
        · have d1 : decide ((j : Int) < (v.lv.length : Int)) = true := by rw [v.lv_len]; simp [h1]
          have x1 := Val.lv_get h1
          have hd := allL_drop good h1
          have hc1 := ih v.l[j] (List.getElem_mem h1)
          repeat' first
            | refine .seq ?_ | refine .rg ?_ | refine .rd ?_ | refine .block ?_ | refine .scope ?_ | refine .skip ?_ | refine .label ?_ | refine .exit ?_ | refine .ret ?_
            | refine .ct ?_ | refine .cf ?_ | refine .cy ?_ | refine .cn ?_ | (refine .cond rfl ?_ ?_ <;> intro hc)
            | refine A.nil_seq ?_ | refine .nl ?_ | refine .dd ?_ | refine .ys ?_ | refine .no ?_ | (refine A.guard rfl ?_ ?_ <;> intro hc)
            | refine .lb ?_ | refine .ln ?_ | refine .ls ?_ | refine .pv ?_ | refine .ix ?_ | refine .pt ?_ | refine .pf ?_ | refine .bx ?_ | refine .al ?_ | refine .st ?_ | refine .ad ?_ | refine .sb ?_ | refine .mf ?_ | refine .cl ?_ | refine .cw ?_ | refine .ck ?_ | fail
          all_goals first
            | (refine Fin.ret1 rfl (Weak.eq (congrArg AV.bool ?_)); rw [hp, hd]; simp_all; done)
            | (exact ⟨h1, ⟨rfl, rfl, trivial⟩, by simp [belowS, AV.low], rfl, rfl, by rw [hp, hd]; simp_all⟩)
        · have d1 : decide ((j : Int) < (v.lv.length : Int)) = false := by rw [v.lv_len]; simp; omega
          repeat' first
            | refine .seq ?_ | refine .rg ?_ | refine .rd ?_ | refine .block ?_ | refine .scope ?_ | refine .skip ?_ | refine .label ?_ | refine .exit ?_ | refine .ret ?_
            | refine .ct ?_ | refine .cf ?_ | refine .cy ?_ | refine .cn ?_ | (refine .cond rfl ?_ ?_ <;> intro hc)
            | refine A.nil_seq ?_ | refine .nl ?_ | refine .dd ?_ | refine .ys ?_ | refine .no ?_ | (refine A.guard rfl ?_ ?_ <;> intro hc)
            | refine .lb ?_ | refine .ln ?_ | refine .ls ?_ | refine .pv ?_ | refine .ix ?_ | refine .pt ?_ | refine .pf ?_ | refine .bx ?_ | refine .al ?_ | refine .st ?_ | refine .ad ?_ | refine .sb ?_ | refine .mf ?_ | refine .cl ?_ | refine .cw ?_ | refine .ck ?_ | fail
          refine Fin.ret1 rfl (Weak.eq (congrArg AV.bool ?_))
          rw [hp, List.drop_eq_nil_of_le (by omega), allL]
      · have es : (v.s != []) = true := by simp [cs]
        repeat' first
          | refine .br ?_
          | refine .seq ?_ | refine .rg ?_ | refine .rd ?_ | refine .block ?_ | refine .scope ?_ | refine .skip ?_ | refine .label ?_ | refine .exit ?_ | refine .ret ?_
          | refine .ct ?_ | refine .cf ?_ | refine .cy ?_ | refine .cn ?_ | (refine .cond rfl ?_ ?_ <;> intro hc)
          | refine A.nil_seq ?_ | refine .nl ?_ | refine .dd ?_ | refine .ys ?_ | refine .no ?_ | (refine A.guard rfl ?_ ?_ <;> intro hc)
          | refine .lb ?_ | refine .ln ?_ | refine .ls ?_ | refine .pv ?_ | refine .ix ?_ | refine .pt ?_ | refine .pf ?_ | refine .bx ?_ | refine .al ?_ | refine .st ?_ | refine .ad ?_ | refine .sb ?_ | refine .mf ?_ | refine .cl ?_ | refine .cw ?_ | refine .ck ?_ | fail
        refine Fin.ret1 rfl (Weak.eq (congrArg AV.bool ?_))
        simp [cs]
    · have em : decide ((0 : Int) < (v.mv.length : Int)) = true := by rw [dm]; simp [cm]
      repeat' first
        | refine .br ?_
        | refine .seq ?_ | refine .rg ?_ | refine .rd ?_ | refine .block ?_ | refine .scope ?_ | refine .skip ?_ | refine .label ?_ | refine .exit ?_ | refine .ret ?_
        | refine .ct ?_ | refine .cf ?_ | refine .cy ?_ | refine .cn ?_ | (refine .cond rfl ?_ ?_ <;> intro hc)
        | refine A.nil_seq ?_ | refine .nl ?_ | refine .dd ?_ | refine .ys ?_ | refine .no ?_ | (refine A.guard rfl ?_ ?_ <;> intro hc)
        | refine .lb ?_ | refine .ln ?_ | refine .ls ?_ | refine .pv ?_ | refine .ix ?_ | refine .pt ?_ | refine .pf ?_ | refine .bx ?_ | refine .al ?_ | refine .st ?_ | refine .ad ?_ | refine .sb ?_ | refine .mf ?_ | refine .cl ?_ | refine .cw ?_ | refine .ck ?_ | fail
      refine Fin.ret1 rfl (Weak.eq (congrArg AV.bool ?_))
      simp [cm]
  · have en : (v.n != 0) = true := by simp [cn]
    repeat' first
      | refine .br ?_
      | refine .seq ?_ | refine .rg ?_ | refine .rd ?_ | refine .block ?_ | refine .scope ?_ | refine .skip ?_ | refine .label ?_ | refine .exit ?_ | refine .ret ?_
      | refine .ct ?_ | refine .cf ?_ | refine .cy ?_ | refine .cn ?_ | (refine .cond rfl ?_ ?_ <;> intro hc)
      | refine A.nil_seq ?_ | refine .nl ?_ | refine .dd ?_ | refine .ys ?_ | refine .no ?_ | (refine A.guard rfl ?_ ?_ <;> intro hc)
      | refine .lb ?_ | refine .ln ?_ | refine .ls ?_ | refine .pv ?_ | refine .ix ?_ | refine .pt ?_ | refine .pf ?_ | refine .bx ?_ | refine .al ?_ | refine .st ?_ | refine .ad ?_ | refine .sb ?_ | refine .mf ?_ | refine .cl ?_ | refine .cw ?_ | refine .ck ?_ | fail
    refine Fin.ret1 rfl (Weak.eq (congrArg AV.bool ?_))
    simp [cn]
theorem rgv7 (v : Val) (hv : v.size ≤ 1048576) (k : v.kind = 7) (dl : decide ((0 : Int) < (v.lv.length : Int)) = !decide (v.l.length = 0)) (dm : decide ((0 : Int) < (v.mv.length : Int)) = !decide (v.m.length = 0)) (ih : ∀ x ∈ v.m, PFn Tryz.prog 54 [x.v.enc] (.bool (allV good x.v))) : PFn Tryz.prog 54 [v.enc] (.bool (allV good v)) := by
  have hsz := v.size_eq
  have hll := v.l_len
  have hml := v.m_len
  have u0 : (v.kind == 0) = false := by rw [k]; rfl
  have u1 : (v.kind == 1) = false := by rw [k]; rfl
  have u2 : (v.kind == 2) = false := by rw [k]; rfl
  have u3 : (v.kind == 3) = false := by rw [k]; rfl
  have u4 : (v.kind == 4) = false := by rw [k]; rfl
  have u5 : (v.kind == 5) = false := by rw [k]; rfl
  have u6 : (v.kind == 6) = false := by rw [k]; rfl
  have u7 : (v.kind == 7) = true := by rw [k]; rfl
  have u8 : (v.kind == 8) = false := by rw [k]; rfl
  have w1 : (v.kind != 1) = true := by rw [k]; rfl
  have w2 : (v.kind != 2) = true := by rw [k]; rfl
  have w6 : (v.kind != 6) = true := by rw [k]; rfl
  have w7 : (v.kind != 7) = false := by rw [k]; rfl
  refine AFn.plain rfl (by simp [AV.closedL, Val.closed]) (AFn.enter [2] Tryz.func54 rfl rfl rfl rfl rfl (by decide) ?_)
  rw [allV_eq, if_neg (by omega), if_pos k]
  by_cases cn : v.n = 0
  · have en : (v.n != 0) = false := by simp [cn]
    by_cases cm : v.l.length = 0
    · have em : decide ((0 : Int) < (v.lv.length : Int)) = false := by rw [dl]; simp [cm]
      by_cases cs : v.s = []
      · have es : (v.s != []) = false := by simp [cs]
        have hall : (allM good v.m && (v.n == 0 && v.s == [] && decide (v.l.length = 0))) = allM good v.m := by simp [cn, cm, cs]
        rw [hall]
        repeat' first
          | refine .br ?_
          | refine .seq ?_ | refine .rg ?_ | refine .rd ?_ | refine .block ?_ | refine .scope ?_ | refine .skip ?_ | refine .label ?_ | refine .exit ?_ | refine .ret ?_
          | refine .ct ?_ | refine .cf ?_ | refine .cy ?_ | refine .cn ?_ | (refine .cond rfl ?_ ?_ <;> intro hc)
          | refine A.nil_seq ?_ | refine .nl ?_ | refine .dd ?_ | refine .ys ?_ | refine .no ?_ | (refine A.guard rfl ?_ ?_ <;> intro hc)
          | refine .lb ?_ | refine .ln ?_ | refine .ls ?_ | refine .pv ?_ | refine .ix ?_ | refine .pt ?_ | refine .pf ?_ | refine .bx ?_ | refine .al ?_ | refine .st ?_ | refine .ad ?_ | refine .sb ?_ | refine .mf ?_ | refine .cl ?_ | refine .cw ?_ | refine .ck ?_ | fail
        refine HCode.forK v.m.length (fun j => [(7, .int .i64 j), (1, .rptr v.enc)]) (fun _ => ⟨[], []⟩) (fun j => allM good v.m = allM good (v.m.drop j)) ⟨rfl, rfl, trivial⟩ rfl rfl fun j hj hp => ?_
        by_cases h1 : j < v.m.length
        · have d1 : decide ((j : Int) < (v.mv.length : Int)) = true := by rw [v.mv_len]; simp [h1]
          have x1 := Val.mv_get h1
          have hd := allM_drop good h1
          have hc1 := ih v.m[j] (List.getElem_mem h1)
          have hg1 := rGood v.m[j].name (by have := Mem.name_len h1; omega)
          repeat' first
            | refine .seq ?_ | refine .rg ?_ | refine .rd ?_ | refine .block ?_ | refine .scope ?_ | refine .skip ?_ | refine .label ?_ | refine .exit ?_ | refine .ret ?_
            | refine .ct ?_ | refine .cf ?_ | refine .cy ?_ | refine .cn ?_ | (refine .cond rfl ?_ ?_ <;> intro hc)
            | refine A.nil_seq ?_ | refine .nl ?_ | refine .dd ?_ | refine .ys ?_ | refine .no ?_ | (refine A.guard rfl ?_ ?_ <;> intro hc)
            | refine .lb ?_ | refine .ln ?_ | refine .ls ?_ | refine .pv ?_ | refine .ix ?_ | refine .pt ?_ | refine .pf ?_ | refine .bx ?_ | refine .al ?_ | refine .st ?_ | refine .ad ?_ | refine .sb ?_ | refine .mf ?_ | refine .cl ?_ | refine .cw ?_ | refine .ck ?_ | fail
          all_goals first
            | (refine Fin.ret1 rfl (Weak.eq (congrArg AV.bool ?_)); rw [hp, hd]; simp_all; done)
            | (exact ⟨h1, ⟨rfl, rfl, trivial⟩, by simp [belowS, AV.low], rfl, rfl, by rw [hp, hd]; simp_all⟩)
        · have d1 : decide ((j : Int) < (v.mv.length : Int)) = false := by rw [v.mv_len]; simp; omega
          repeat' first
            | refine .seq ?_ | refine .rg ?_ | refine .rd ?_ | refine .block ?_ | refine .scope ?_ | refine .skip ?_ | refine .label ?_ | refine .exit ?_ | refine .ret ?_
            | refine .ct ?_ | refine .cf ?_ | refine .cy ?_ | refine .cn ?_ | (refine .cond rfl ?_ ?_ <;> intro hc)
            | refine A.nil_seq ?_ | refine .nl ?_ | refine .dd ?_ | refine .ys ?_ | refine .no ?_ | (refine A.guard rfl ?_ ?_ <;> intro hc)
            | refine .lb ?_ | refine .ln ?_ | refine .ls ?_ | refine .pv ?_ | refine .ix ?_ | refine .pt ?_ | refine .pf ?_ | refine .bx ?_ | refine .al ?_ | refine .st ?_ | refine .ad ?_ | refine .sb ?_ | refine .mf ?_ | refine .cl ?_ | refine .cw ?_ | refine .ck ?_ | fail
          refine Fin.ret1 rfl (Weak.eq (congrArg AV.bool ?_))
          rw [hp, List.drop_eq_nil_of_le (by omega), allM]
      · have es : (v.s != []) = true := by simp [cs]
        repeat' first
          | refine .br ?_
          | refine .seq ?_ | refine .rg ?_ | refine .rd ?_ | refine .block ?_ | refine .scope ?_ | refine .skip ?_ | refine .label ?_ | refine .exit ?_ | refine .ret ?_
          | refine .ct ?_ | refine .cf ?_ | refine .cy ?_ | refine .cn ?_ | (refine .cond rfl ?_ ?_ <;> intro hc)
          | refine A.nil_seq ?_ | refine .nl ?_ | refine .dd ?_ | refine .ys ?_ | refine .no ?_ | (refine A.guard rfl ?_ ?_ <;> intro hc)
          | refine .lb ?_ | refine .ln ?_ | refine .ls ?_ | refine .pv ?_ | refine .ix ?_ | refine .pt ?_ | refine .pf ?_ | refine .bx ?_ | refine .al ?_ | refine .st ?_ | refine .ad ?_ | refine .sb ?_ | refine .mf ?_ | refine .cl ?_ | refine .cw ?_ | refine .ck ?_ | fail
        refine Fin.ret1 rfl (Weak.eq (congrArg AV.bool ?_))
        simp [cs]
    · have em : decide ((0 : Int) < (v.lv.length : Int)) = true := by rw [dl]; simp [cm]
      repeat' first
        | refine .br ?_
        | refine .seq ?_ | refine .rg ?_ | refine .rd ?_ | refine .block ?_ | refine .scope ?_ | refine .skip ?_ | refine .label ?_ | refine .exit ?_ | refine .ret ?_
        | refine .ct ?_ | refine .cf ?_ | refine .cy ?_ | refine .cn ?_ | (refine .cond rfl ?_ ?_ <;> intro hc)
        | refine A.nil_seq ?_ | refine .nl ?_ | refine .dd ?_ | refine .ys ?_ | refine .no ?_ | (refine A.guard rfl ?_ ?_ <;> intro hc)
        | refine .lb ?_ | refine .ln ?_ | refine .ls ?_ | refine .pv ?_ | refine .ix ?_ | refine .pt ?_ | refine .pf ?_ | refine .bx ?_ | refine .al ?_ | refine .st ?_ | refine .ad ?_ | refine .sb ?_ | refine .mf ?_ | refine .cl ?_ | refine .cw ?_ | refine .ck ?_ | fail
      refine Fin.ret1 rfl (Weak.eq (congrArg AV.bool ?_))
      simp [cm]
  · have en : (v.n != 0) = true := by simp [cn]
    repeat' first
      | refine .br ?_
      | refine .seq ?_ | refine .rg ?_ | refine .rd ?_ | refine .block ?_ | refine .scope ?_ | refine .skip ?_ | refine .label ?_ | refine .exit ?_ | refine .ret ?_
      | refine .ct ?_ | refine .cf ?_ | refine .cy ?_ | refine .cn ?_ | (refine .cond rfl ?_ ?_ <;> intro hc)
      | refine A.nil_seq ?_ | refine .nl ?_ | refine .dd ?_ | refine .ys ?_ | refine .no ?_ | (refine A.guard rfl ?_ ?_ <;> intro hc)
      | refine .lb ?_ | refine .ln ?_ | refine .ls ?_ | refine .pv ?_ | refine .ix ?_ | refine .pt ?_ | refine .pf ?_ | refine .bx ?_ | refine .al ?_ | refine .st ?_ | refine .ad ?_ | refine .sb ?_ | refine .mf ?_ | refine .cl ?_ | refine .cw ?_ | refine .ck ?_ | fail
    refine Fin.ret1 rfl (Weak.eq (congrArg AV.bool ?_))
    simp [cn]
theorem rGoodValue : ∀ N : Nat, N ≤ 1048576 → ∀ v : Val, v.size ≤ N → PFn Tryz.prog 54 [v.enc] (.bool (allV good v))
  | 0, _, v, hv => absurd hv (by have := v.size_pos; omega)
  | N + 1, hN, v, hv => by
    have ih := rGoodValue N (by omega)
    have dl : decide ((0 : Int) < (v.lv.length : Int)) = !decide (v.l.length = 0) := by rw [v.lv_len, Bool.eq_iff_iff]; simp only [decide_eq_true_eq, Bool.not_eq_true', decide_eq_false_iff_not]; omega
    have dm : decide ((0 : Int) < (v.mv.length : Int)) = !decide (v.m.length = 0) := by rw [v.mv_len, Bool.eq_iff_iff]; simp only [decide_eq_true_eq, Bool.not_eq_true', decide_eq_false_iff_not]; omega
    by_cases k0 : v.kind = 0
    · exact rgv0 v (by omega) k0 dl dm
    by_cases k1 : v.kind = 1
    · exact rgv1 v (by omega) k1 dl dm
    by_cases k2 : v.kind = 2
    · exact rgv2 v (by omega) k2 dl dm
    by_cases k3 : v.kind = 3
    · exact rgv3 v (by omega) k3 dl dm
    by_cases k4 : v.kind = 4
    · exact rgv4 v (by omega) k4 dl dm
    by_cases k5 : v.kind = 5
    · exact rgv5 v (by omega) k5 dl dm
    by_cases k8 : v.kind = 8
    · exact rgv8 v (by omega) k8 dl dm
    by_cases k6 : v.kind = 6
    · exact rgv6 v (by omega) k6 dl dm (fun x hx => ih x (by
        obtain ⟨j, hj, rfl⟩ := List.getElem_of_mem hx
        have := Val.size_l hj; omega))
    by_cases k7 : v.kind = 7
    · exact rgv7 v (by omega) k7 dl dm (fun x hx => ih x.v (by
        obtain ⟨j, hj, rfl⟩ := List.getElem_of_mem hx
        have := Val.size_m hj; omega))
    exact rgvX v (by omega) dl dm
end Go.Proofs.YtpidjkihngiaoaaGreatDoor
