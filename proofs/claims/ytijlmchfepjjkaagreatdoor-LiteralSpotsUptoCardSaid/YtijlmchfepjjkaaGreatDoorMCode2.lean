/-
  The reference: Code.
-/
import Derived.Test.YtijlmchfepjjkaaGreatDoorMCode
import Derived.Test.YtijlmchfepjjkaaGreatDoorMNum3
namespace Go.Proofs.YtijlmchfepjjkaaGreatDoor
open Go Go.Av
set_option maxRecDepth 100000
set_option maxHeartbeats 16000000
set_option linter.unusedVariables false
set_option linter.unusedSimpArgs false
attribute [local irreducible] HCode AOps PFn AFn Av.Step TStep

theorem conv_u8 (c : UInt8) : IntKind.i64.wrap (c.toNat : Int) = (c.toNat : Int) := wrap_nat (by have := UInt8.toNat_lt c; omega)
def cAcc (f : Nat → Nat) (c0 : Nat) : Nat → Nat
  | 0 => c0
  | j + 1 => cAcc f c0 j * 64 + f (j + 1) % 64
theorem cAcc_lt (f : Nat → Nat) {c0 : Nat} (h0 : c0 < 32) : ∀ {j : Nat}, j ≤ 3 → cAcc f c0 j < 8388608
  | 0, _ => by rw [cAcc]; omega
  | 1, _ => by rw [cAcc, cAcc]; omega
  | 2, _ => by rw [cAcc, cAcc, cAcc]; omega
  | 3, _ => by rw [cAcc, cAcc, cAcc, cAcc]; omega
def byteAt (s : Str) (i k : Nat) : Nat := (s.getD (i + k) 0).toNat
theorem byteAt_of {s : Str} {i k : Nat} (h : i + k < s.length) : byteAt s i k = s[i + k].toNat := by unfold byteAt; simp [List.getD, h]
def contB (b : Nat) : Bool := decide (128 ≤ b) && decide (b ≤ 191)
/-- The bytes behind the first, from the k-th on. -/
def contAll (s : Str) (i : Nat) : Nat → Nat → Bool
  | _, 0 => true
  | k, n + 1 => contB (byteAt s i k) && contAll s i (k + 1) n
/-- What Code tells, as soon as the first byte is read. -/
def restC (s : Str) (i N LO c0 : Nat) : Nat × Nat := if N ≤ s.length - i then (if contAll s i 1 (N - 1) = true then finC (cAcc (byteAt s i) c0 (N - 1)) LO N else (0, 0)) else (0, 0)
abbrev pairV (p : Nat × Nat) : AV := .tup [.int .i64 (p.1 : Int), .int .i64 (p.2 : Int)]

attribute [local irreducible] Int.decLt Int.decLe Int.le Int.lt in
theorem codeEnd (N LO c : Nat) : HCode Tryz.prog Tryz.f85.ntmps [] (tailOf 8 (bodyOf Tryz.f85)) (fin [4, 5] (fun e _ => ∃ v, e = .ret v ∧ Weak v (pairV (finC c LO N))))
    [(6, .int .i64 (c : Int)), (7, .int .i64 (N : Int)), (8, .int .i64 (LO : Int))] ⟨[], []⟩ := by
  by_cases w1 : c < LO
  · have v1 : decide ((c : Int) < (LO : Int)) = true := decide_eq_true (by omega)
    repeat' first
      | refine .seq ?_ | refine .rg ?_ | refine .rd ?_ | refine .block ?_ | refine .scope ?_ | refine .skip ?_ | refine .label ?_ | refine .exit ?_ | refine .ret ?_
      | refine .ct ?_ | refine .cf ?_ | refine .cy ?_ | refine .cn ?_ | (refine .cond rfl ?_ ?_ <;> intro hc)
      | refine A.nil_seq ?_ | refine .nl ?_ | refine .dd ?_ | refine .ys ?_ | refine .no ?_ | (refine A.guard rfl ?_ ?_ <;> intro hc)
      | refine .lb ?_ | refine .ln ?_ | refine .ls ?_ | refine .pv ?_ | refine .ix ?_ | refine .pt ?_ | refine .pf ?_ | refine .bx ?_ | refine .al ?_ | refine .st ?_ | refine .ad ?_ | refine .sb ?_ | refine .mf ?_ | refine .cl ?_ | refine .cw ?_ | refine .ck ?_ | fail
    refine Fin.two rfl rfl (Weak.eq ?_)
    rw [finC, if_pos (.inl w1)]; rfl
  · have v1 : decide ((c : Int) < (LO : Int)) = false := decide_eq_false (by omega)
    by_cases w2 : 1114111 < c
    · have v2 : decide ((c : Int) > 1114111) = true := decide_eq_true (by omega)
      repeat' first
        | refine .seq ?_ | refine .rg ?_ | refine .rd ?_ | refine .block ?_ | refine .scope ?_ | refine .skip ?_ | refine .label ?_ | refine .exit ?_ | refine .ret ?_
        | refine .ct ?_ | refine .cf ?_ | refine .cy ?_ | refine .cn ?_ | (refine .cond rfl ?_ ?_ <;> intro hc)
        | refine A.nil_seq ?_ | refine .nl ?_ | refine .dd ?_ | refine .ys ?_ | refine .no ?_ | (refine A.guard rfl ?_ ?_ <;> intro hc)
        | refine .lb ?_ | refine .ln ?_ | refine .ls ?_ | refine .pv ?_ | refine .ix ?_ | refine .pt ?_ | refine .pf ?_ | refine .bx ?_ | refine .al ?_ | refine .st ?_ | refine .ad ?_ | refine .sb ?_ | refine .mf ?_ | refine .cl ?_ | refine .cw ?_ | refine .ck ?_ | fail
      refine Fin.two rfl rfl (Weak.eq ?_)
      rw [finC, if_pos (.inr (.inl w2))]; rfl
    · have v2 : decide ((c : Int) > 1114111) = false := decide_eq_false (by omega)
      by_cases w3 : 55296 ≤ c
      · have v3 : decide ((c : Int) ≥ 55296) = true := decide_eq_true (by omega)
        by_cases w4 : c < 57344
        · have v4 : decide ((c : Int) < 57344) = true := decide_eq_true (by omega)
          repeat' first
            | refine .seq ?_ | refine .rg ?_ | refine .rd ?_ | refine .block ?_ | refine .scope ?_ | refine .skip ?_ | refine .label ?_ | refine .exit ?_ | refine .ret ?_
            | refine .ct ?_ | refine .cf ?_ | refine .cy ?_ | refine .cn ?_ | (refine .cond rfl ?_ ?_ <;> intro hc)
            | refine A.nil_seq ?_ | refine .nl ?_ | refine .dd ?_ | refine .ys ?_ | refine .no ?_ | (refine A.guard rfl ?_ ?_ <;> intro hc)
            | refine .lb ?_ | refine .ln ?_ | refine .ls ?_ | refine .pv ?_ | refine .ix ?_ | refine .pt ?_ | refine .pf ?_ | refine .bx ?_ | refine .al ?_ | refine .st ?_ | refine .ad ?_ | refine .sb ?_ | refine .mf ?_ | refine .cl ?_ | refine .cw ?_ | refine .ck ?_ | fail
          refine Fin.two rfl rfl (Weak.eq ?_)
          rw [finC, if_pos (.inr (.inr ⟨w3, w4⟩))]; rfl
        · have v4 : decide ((c : Int) < 57344) = false := decide_eq_false (by omega)
          repeat' first
            | refine .seq ?_ | refine .rg ?_ | refine .rd ?_ | refine .block ?_ | refine .scope ?_ | refine .skip ?_ | refine .label ?_ | refine .exit ?_ | refine .ret ?_
            | refine .ct ?_ | refine .cf ?_ | refine .cy ?_ | refine .cn ?_ | (refine .cond rfl ?_ ?_ <;> intro hc)
            | refine A.nil_seq ?_ | refine .nl ?_ | refine .dd ?_ | refine .ys ?_ | refine .no ?_ | (refine A.guard rfl ?_ ?_ <;> intro hc)
            | refine .lb ?_ | refine .ln ?_ | refine .ls ?_ | refine .pv ?_ | refine .ix ?_ | refine .pt ?_ | refine .pf ?_ | refine .bx ?_ | refine .al ?_ | refine .st ?_ | refine .ad ?_ | refine .sb ?_ | refine .mf ?_ | refine .cl ?_ | refine .cw ?_ | refine .ck ?_ | fail
          refine Fin.two rfl rfl (Weak.eq ?_)
          rw [finC, if_neg (by omega)]
      · have v3 : decide ((c : Int) ≥ 55296) = false := decide_eq_false (by omega)
        repeat' first
          | refine .seq ?_ | refine .rg ?_ | refine .rd ?_ | refine .block ?_ | refine .scope ?_ | refine .skip ?_ | refine .label ?_ | refine .exit ?_ | refine .ret ?_
          | refine .ct ?_ | refine .cf ?_ | refine .cy ?_ | refine .cn ?_ | (refine .cond rfl ?_ ?_ <;> intro hc)
          | refine A.nil_seq ?_ | refine .nl ?_ | refine .dd ?_ | refine .ys ?_ | refine .no ?_ | (refine A.guard rfl ?_ ?_ <;> intro hc)
          | refine .lb ?_ | refine .ln ?_ | refine .ls ?_ | refine .pv ?_ | refine .ix ?_ | refine .pt ?_ | refine .pf ?_ | refine .bx ?_ | refine .al ?_ | refine .st ?_ | refine .ad ?_ | refine .sb ?_ | refine .mf ?_ | refine .cl ?_ | refine .cw ?_ | refine .ck ?_ | fail
        refine Fin.two rfl rfl (Weak.eq ?_)
        rw [finC, if_neg (by omega)]

theorem contAll_stop {s : Str} {i : Nat} : ∀ {n k j : Nat}, k ≤ j → j < k + n → contB (byteAt s i j) = false → contAll s i k n = false
  | 0, k, j, h1, h2, _ => by omega
  | n + 1, k, j, h1, h2, h => by
    rw [contAll]
    by_cases e : k = j
    · subst e; rw [h]; rfl
    · rw [contAll_stop (by omega) (by omega) h, Bool.and_false]
theorem contAll_all {s : Str} {i : Nat} : ∀ {n k : Nat}, (∀ j, k ≤ j → j < k + n → contB (byteAt s i j) = true) → contAll s i k n = true
  | 0, _, _ => rfl
  | n + 1, k, h => by
    rw [contAll, h k (Nat.le_refl _) (by omega), contAll_all fun j h1 h2 => h j (by omega) (by omega)]; rfl
attribute [local irreducible] Int.decLt Int.decLe Int.le Int.lt in
theorem codeRest (s : Str) (i N LO c0 : Nat) (hi : i < s.length) (hs : s.length ≤ 4611686018427387904) (hN : 2 ≤ N ∧ N ≤ 4) (hc0 : c0 < 32) :
    HCode Tryz.prog Tryz.f85.ntmps [] (tailOf 6 (bodyOf Tryz.f85)) (fin [4, 5] (fun e _ => ∃ v, e = .ret v ∧ Weak v (pairV (restC s i N LO c0))))
      [(6, .int .i64 (c0 : Int)), (7, .int .i64 (N : Int)), (8, .int .i64 (LO : Int)), (0, .str s), (1, .int .i64 (i : Int))] ⟨[], []⟩ := by
  unfold restC
  by_cases hn : N ≤ s.length - i
  · have d2 : decide ((N : Int) > (s.length : Int) - (i : Int)) = false := decide_eq_false (by omega)
    rw [if_pos hn]
    repeat' first
      | refine .seq ?_ | refine .rg ?_ | refine .rd ?_ | refine .block ?_ | refine .scope ?_ | refine .skip ?_ | refine .label ?_ | refine .exit ?_ | refine .ret ?_
      | refine .ct ?_ | refine .cf ?_ | refine .cy ?_ | refine .cn ?_ | (refine .cond rfl ?_ ?_ <;> intro hc)
      | refine A.nil_seq ?_ | refine .nl ?_ | refine .dd ?_ | refine .ys ?_ | refine .no ?_ | (refine A.guard rfl ?_ ?_ <;> intro hc)
      | refine .lb ?_ | refine .ln ?_ | refine .ls ?_ | refine .pv ?_ | refine .ix ?_ | refine .pt ?_ | refine .pf ?_ | refine .bx ?_ | refine .al ?_ | refine .st ?_ | refine .ad ?_ | refine .sb ?_ | refine .mf ?_ | refine .cl ?_ | refine .cw ?_ | refine .ck ?_ | fail
    change HCode _ _ _ _ _ _ _
    refine HCode.loop (fun n σs σ => ∃ j : Nat, n = N - 1 - j ∧ j ≤ N - 1 ∧ (∀ k, 1 ≤ k → k ≤ j → contB (byteAt s i k) = true) ∧ σ = ⟨[], []⟩ ∧
      σs = [(9, .int .i64 ((j + 1 : Nat) : Int)), (7, .int .i64 (N : Int)), (6, .int .i64 ((cAcc (byteAt s i) c0 j : Nat) : Int)), (0, .str s), (1, .int .i64 (i : Int)), (8, .int .i64 (LO : Int))])
      (s0 := [(9, .int .i64 ((0 + 1 : Nat) : Int)), (7, .int .i64 (N : Int)), (6, .int .i64 ((cAcc (byteAt s i) c0 0 : Nat) : Int)), (0, .str s), (1, .int .i64 (i : Int)), (8, .int .i64 (LO : Int))])
      ⟨rfl, rfl, rfl, rfl, rfl, rfl, trivial⟩ ⟨0, rfl, Nat.zero_le _, fun k h1 h2 => by omega, rfl, rfl⟩ ?_
    rintro n σs σ ⟨j, rfl, hj, hcont, rfl, rfl⟩
    have hacc := cAcc_lt (byteAt s i) hc0 (j := j) (by omega)
    by_cases h1 : j + 1 < N
    · have d3 : decide (((j + 1 : Nat) : Int) < (N : Int)) = true := decide_eq_true (by omega)
      have hk : i + (j + 1) < s.length := by omega
      have xk := get_str hk
      have hbk := UInt8.toNat_lt s[i + (j + 1)]
      have gk := byteAt_of (s := s) (i := i) (k := j + 1) hk
      by_cases k1 : s[i + (j + 1)].toNat < 128
      · have d4 : decide ((s[i + (j + 1)].toNat : Int) < 128) = true := decide_eq_true (by omega)
        have hq : contB (byteAt s i (j + 1)) = false := by rw [gk]; unfold contB; rw [decide_eq_false (by omega)]; rfl
        rw [contAll_stop (j := j + 1) (by omega) (by omega) hq, if_neg (by decide)]
        repeat' first
          | refine .seq ?_ | refine .rg ?_ | refine .rd ?_ | refine .block ?_ | refine .scope ?_ | refine .skip ?_ | refine .label ?_ | refine .exit ?_ | refine .ret ?_
          | refine .ct ?_ | refine .cf ?_ | refine .cy ?_ | refine .cn ?_ | (refine .cond rfl ?_ ?_ <;> intro hc)
          | refine A.nil_seq ?_ | refine .nl ?_ | refine .dd ?_ | refine .ys ?_ | refine .no ?_ | (refine A.guard rfl ?_ ?_ <;> intro hc)
          | refine .lb ?_ | refine .ln ?_ | refine .ls ?_ | refine .pv ?_ | refine .ix ?_ | refine .pt ?_ | refine .pf ?_ | refine .bx ?_ | refine .al ?_ | refine .st ?_ | refine .ad ?_ | refine .sb ?_ | refine .mf ?_ | refine .cl ?_ | refine .cw ?_ | refine .ck ?_
          | refine A.index_s (j := i + (j + 1)) rfl rfl rfl rfl rfl (by assumption) ?_ | refine A.conv rfl rfl rfl rfl (conv_u8 _) ?_ | fail
        exact Fin.two rfl rfl (Weak.refl _)
      · have d4 : decide ((s[i + (j + 1)].toNat : Int) < 128) = false := decide_eq_false (by omega)
        by_cases k2 : 191 < s[i + (j + 1)].toNat
        · have d5 : decide ((s[i + (j + 1)].toNat : Int) > 191) = true := decide_eq_true (by omega)
          have hq : contB (byteAt s i (j + 1)) = false := by rw [gk]; unfold contB; rw [decide_eq_true (by omega), decide_eq_false (by omega)]; rfl
          rw [contAll_stop (j := j + 1) (by omega) (by omega) hq, if_neg (by decide)]
          repeat' first
            | refine .seq ?_ | refine .rg ?_ | refine .rd ?_ | refine .block ?_ | refine .scope ?_ | refine .skip ?_ | refine .label ?_ | refine .exit ?_ | refine .ret ?_
            | refine .ct ?_ | refine .cf ?_ | refine .cy ?_ | refine .cn ?_ | (refine .cond rfl ?_ ?_ <;> intro hc)
            | refine A.nil_seq ?_ | refine .nl ?_ | refine .dd ?_ | refine .ys ?_ | refine .no ?_ | (refine A.guard rfl ?_ ?_ <;> intro hc)
            | refine .lb ?_ | refine .ln ?_ | refine .ls ?_ | refine .pv ?_ | refine .ix ?_ | refine .pt ?_ | refine .pf ?_ | refine .bx ?_ | refine .al ?_ | refine .st ?_ | refine .ad ?_ | refine .sb ?_ | refine .mf ?_ | refine .cl ?_ | refine .cw ?_ | refine .ck ?_
            | refine A.index_s (j := i + (j + 1)) rfl rfl rfl rfl rfl (by assumption) ?_ | refine A.conv rfl rfl rfl rfl (conv_u8 _) ?_ | fail
          exact Fin.two rfl rfl (Weak.refl _)
        · have d5 : decide ((s[i + (j + 1)].toNat : Int) > 191) = false := decide_eq_false (by omega)
          repeat' first
            | refine .seq ?_ | refine .rg ?_ | refine .rd ?_ | refine .block ?_ | refine .scope ?_ | refine .skip ?_ | refine .label ?_ | refine .exit ?_ | refine .ret ?_
            | refine .ct ?_ | refine .cf ?_ | refine .cy ?_ | refine .cn ?_ | (refine .cond rfl ?_ ?_ <;> intro hc)
            | refine A.nil_seq ?_ | refine .nl ?_ | refine .dd ?_ | refine .ys ?_ | refine .no ?_ | (refine A.guard rfl ?_ ?_ <;> intro hc)
            | refine .lb ?_ | refine .ln ?_ | refine .ls ?_ | refine .pv ?_ | refine .ix ?_ | refine .pt ?_ | refine .pf ?_ | refine .bx ?_ | refine .al ?_ | refine .st ?_ | refine .ad ?_ | refine .sb ?_ | refine .mf ?_ | refine .cl ?_ | refine .cw ?_ | refine .ck ?_
            | refine A.index_s (j := i + (j + 1)) rfl rfl rfl rfl rfl (by assumption) ?_ | refine A.conv rfl rfl rfl rfl (conv_u8 _) ?_ | refine A.shl6 rfl rfl rfl (by omega) ?_ | refine A.band (n := 63) rfl rfl rfl rfl (by omega) (by decide) (and63 _) ?_ | refine A.bor rfl rfl rfl rfl (by omega) (by omega) (or64 _ _ (by omega)) ?_ | fail
          refine ⟨N - 1 - (j + 1), by omega, [(9, .int .i64 ((j + 1 + 1 : Nat) : Int)), (7, .int .i64 (N : Int)), (6, .int .i64 ((cAcc (byteAt s i) c0 (j + 1) : Nat) : Int)), (0, .str s), (1, .int .i64 (i : Int)), (8, .int .i64 (LO : Int))],
            ⟨rfl, rfl, by rw [cAcc, gk]; rfl, rfl, rfl, rfl, trivial⟩, by simp [belowS, AV.low], rfl, j + 1, rfl, by omega, fun k q1 q2 => ?_, rfl, rfl⟩
          by_cases e : k = j + 1
          · subst e; rw [gk]; unfold contB; rw [decide_eq_true (by omega), decide_eq_true (by omega)]; rfl
          · exact hcont k q1 (by omega)
    · have d3 : decide (((j + 1 : Nat) : Int) < (N : Int)) = false := decide_eq_false (by omega)
      obtain rfl : j = N - 1 := by omega
      rw [contAll_all fun k q1 q2 => hcont k q1 (by omega), if_pos rfl]
      have hend := codeEnd N LO (cAcc (byteAt s i) c0 (N - 1))
      repeat' first
        | (refine HCode.weaken hend ?_; exact ⟨rfl, rfl, rfl, trivial⟩)
        | refine .seq ?_ | refine .rg ?_ | refine .rd ?_ | refine .block ?_ | refine .scope ?_ | refine .skip ?_ | refine .label ?_ | refine .exit ?_ | refine .ret ?_
        | refine .ct ?_ | refine .cf ?_ | refine .cy ?_ | refine .cn ?_ | (refine .cond rfl ?_ ?_ <;> intro hc)
        | refine A.nil_seq ?_ | refine .nl ?_ | refine .dd ?_ | refine .ys ?_ | refine .no ?_ | (refine A.guard rfl ?_ ?_ <;> intro hc)
        | refine .lb ?_ | refine .ln ?_ | refine .ls ?_ | refine .pv ?_ | refine .ix ?_ | refine .pt ?_ | refine .pf ?_ | refine .bx ?_ | refine .al ?_ | refine .st ?_ | refine .ad ?_ | refine .sb ?_ | refine .mf ?_ | refine .cl ?_ | refine .cw ?_ | refine .ck ?_ | fail
  · have d2 : decide ((N : Int) > (s.length : Int) - (i : Int)) = true := decide_eq_true (by omega)
    rw [if_neg hn]
    repeat' first
      | refine .seq ?_ | refine .rg ?_ | refine .rd ?_ | refine .block ?_ | refine .scope ?_ | refine .skip ?_ | refine .label ?_ | refine .exit ?_ | refine .ret ?_
      | refine .ct ?_ | refine .cf ?_ | refine .cy ?_ | refine .cn ?_ | (refine .cond rfl ?_ ?_ <;> intro hc)
      | refine A.nil_seq ?_ | refine .nl ?_ | refine .dd ?_ | refine .ys ?_ | refine .no ?_ | (refine A.guard rfl ?_ ?_ <;> intro hc)
      | refine .lb ?_ | refine .ln ?_ | refine .ls ?_ | refine .pv ?_ | refine .ix ?_ | refine .pt ?_ | refine .pf ?_ | refine .bx ?_ | refine .al ?_ | refine .st ?_ | refine .ad ?_ | refine .sb ?_ | refine .mf ?_ | refine .cl ?_ | refine .cw ?_ | refine .ck ?_ | fail
    exact Fin.two rfl rfl (Weak.refl _)
end Go.Proofs.YtijlmchfepjjkaaGreatDoor
