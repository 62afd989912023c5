/-
  The reference: Code.
  The reference: Code, whole.
  The program's types, parameters, fields, definitions, schemas, as abstract values; how they are read.
-/
import Derived.Test.YtijlmchfepjjkaaDoorGCommandMays7
import Derived.Test.YtijlmchfepjjkaaDoorGCommandMays6
import Derived.Test.YtijlmchfepjjkaaDoorGCommandMays1
namespace Go.Proofs.YtijlmchfepjjkaaDoor
open Go Go.Av
set_option maxRecDepth 100000
set_option maxHeartbeats 16000000
set_option linter.unusedVariables false
set_option linter.unusedSimpArgs false
attribute [local irreducible] HCode AOps PFn AFn Av.Step TStep

theorem conv_u8 (c : UInt8) : IntKind.i64.wrap (c.toNat : Int) = (c.toNat : Int) := wrap_nat (by have := UInt8.toNat_lt c; omega)
def cAcc (f : Nat → Nat) (c0 : Nat) : Nat → Nat
  | 0 => c0
  | j + 1 => cAcc f c0 j * 64 + f (j + 1) % 64
theorem cAcc_lt (f : Nat → Nat) {c0 : Nat} (h0 : c0 < 32) : ∀ {j : Nat}, j ≤ 3 → cAcc f c0 j < 8388608
  | 0, _ => by rw [cAcc]; omega
  | 1, _ => by rw [cAcc, cAcc]; omega
  | 2, _ => by rw [cAcc, cAcc, cAcc]; omega
  | 3, _ => by rw [cAcc, cAcc, cAcc, cAcc]; omega
def byteAt (s : Str) (i k : Nat) : Nat := (s.getD (i + k) 0).toNat
theorem byteAt_of {s : Str} {i k : Nat} (h : i + k < s.length) : byteAt s i k = s[i + k].toNat := by unfold byteAt; simp [List.getD, h]
def contB (b : Nat) : Bool := decide (128 ≤ b) && decide (b ≤ 191)
/-- The bytes behind the first, from the k-th on. -/
def contAll (s : Str) (i : Nat) : Nat → Nat → Bool
  | _, 0 => true
  | k, n + 1 => contB (byteAt s i k) && contAll s i (k + 1) n
/-- What Code tells, as soon as the first byte is read. -/
def restC (s : Str) (i N LO c0 : Nat) : Nat × Nat := if N ≤ s.length - i then (if contAll s i 1 (N - 1) = true then finC (cAcc (byteAt s i) c0 (N - 1)) LO N else (0, 0)) else (0, 0)
abbrev pairV (p : Nat × Nat) : AV := .tup [.int .i64 (p.1 : Int), .int .i64 (p.2 : Int)]

attribute [local irreducible] Int.decLt Int.decLe Int.le Int.lt in
theorem codeEnd (N LO c : Nat) : HCode Tryd.prog Tryd.f135.ntmps [] (tailOf 8 (bodyOf Tryd.f135)) (fin [4, 5] (fun e _ => ∃ v, e = .ret v ∧ Weak v (pairV (finC c LO N))))
    [(6, .int .i64 (c : Int)), (7, .int .i64 (N : Int)), (8, .int .i64 (LO : Int))] ⟨[], []⟩ := by
  by_cases w1 : c < LO
  · have v1 : decide ((c : Int) < (LO : Int)) = true := decide_eq_true (by omega)
    repeat' first
      | refine .seq ?_ | refine .rg ?_ | refine .rd ?_ | refine .block ?_ | refine .scope ?_ | refine .skip ?_ | refine .label ?_ | refine .exit ?_ | refine .ret ?_
      | refine .ct ?_ | refine .cf ?_ | refine .cy ?_ | refine .cn ?_ | (refine .cond rfl ?_ ?_ <;> intro hc)
      | refine A.nil_seq ?_ | refine .nl ?_ | refine .dd ?_ | refine .ys ?_ | refine .no ?_ | (refine A.guard rfl ?_ ?_ <;> intro hc)
      | refine .lb ?_ | refine .ln ?_ | refine .ls ?_ | refine .pv ?_ | refine .ix ?_ | refine .pt ?_ | refine .pf ?_ | refine .bx ?_ | refine .al ?_ | refine .st ?_ | refine .ad ?_ | refine .sb ?_ | refine .mf ?_ | refine .cl ?_ | refine .cw ?_ | refine .ck ?_ | fail
    refine Fin.two rfl rfl (Weak.eq ?_)
    rw [finC, if_pos (.inl w1)]; rfl
  · have v1 : decide ((c : Int) < (LO : Int)) = false := decide_eq_false (by omega)
    by_cases w2 : 1114111 < c
    · have v2 : decide ((c : Int) > 1114111) = true := decide_eq_true (by omega)
      repeat' first
        | refine .seq ?_ | refine .rg ?_ | refine .rd ?_ | refine .block ?_ | refine .scope ?_ | refine .skip ?_ | refine .label ?_ | refine .exit ?_ | refine .ret ?_
        | refine .ct ?_ | refine .cf ?_ | refine .cy ?_ | refine .cn ?_ | (refine .cond rfl ?_ ?_ <;> intro hc)
        | refine A.nil_seq ?_ | refine .nl ?_ | refine .dd ?_ | refine .ys ?_ | refine .no ?_ | (refine A.guard rfl ?_ ?_ <;> intro hc)
        | refine .lb ?_ | refine .ln ?_ | refine .ls ?_ | refine .pv ?_ | refine .ix ?_ | refine .pt ?_ | refine .pf ?_ | refine .bx ?_ | refine .al ?_ | refine .st ?_ | refine .ad ?_ | refine .sb ?_ | refine .mf ?_ | refine .cl ?_ | refine .cw ?_ | refine .ck ?_ | fail
      refine Fin.two rfl rfl (Weak.eq ?_)
      rw [finC, if_pos (.inr (.inl w2))]; rfl
    · have v2 : decide ((c : Int) > 1114111) = false := decide_eq_false (by omega)
      by_cases w3 : 55296 ≤ c
      · have v3 : decide ((c : Int) ≥ 55296) = true := decide_eq_true (by omega)
        by_cases w4 : c < 57344
        · have v4 : decide ((c : Int) < 57344) = true := decide_eq_true (by omega)
          repeat' first
            | refine .seq ?_ | refine .rg ?_ | refine .rd ?_ | refine .block ?_ | refine .scope ?_ | refine .skip ?_ | refine .label ?_ | refine .exit ?_ | refine .ret ?_
            | refine .ct ?_ | refine .cf ?_ | refine .cy ?_ | refine .cn ?_ | (refine .cond rfl ?_ ?_ <;> intro hc)
            | refine A.nil_seq ?_ | refine .nl ?_ | refine .dd ?_ | refine .ys ?_ | refine .no ?_ | (refine A.guard rfl ?_ ?_ <;> intro hc)
            | refine .lb ?_ | refine .ln ?_ | refine .ls ?_ | refine .pv ?_ | refine .ix ?_ | refine .pt ?_ | refine .pf ?_ | refine .bx ?_ | refine .al ?_ | refine .st ?_ | refine .ad ?_ | refine .sb ?_ | refine .mf ?_ | refine .cl ?_ | refine .cw ?_ | refine .ck ?_ | fail
          refine Fin.two rfl rfl (Weak.eq ?_)
          rw [finC, if_pos (.inr (.inr ⟨w3, w4⟩))]; rfl
        · have v4 : decide ((c : Int) < 57344) = false := decide_eq_false (by omega)
          repeat' first
            | refine .seq ?_ | refine .rg ?_ | refine .rd ?_ | refine .block ?_ | refine .scope ?_ | refine .skip ?_ | refine .label ?_ | refine .exit ?_ | refine .ret ?_
            | refine .ct ?_ | refine .cf ?_ | refine .cy ?_ | refine .cn ?_ | (refine .cond rfl ?_ ?_ <;> intro hc)
            | refine A.nil_seq ?_ | refine .nl ?_ | refine .dd ?_ | refine .ys ?_ | refine .no ?_ | (refine A.guard rfl ?_ ?_ <;> intro hc)
            | refine .lb ?_ | refine .ln ?_ | refine .ls ?_ | refine .pv ?_ | refine .ix ?_ | refine .pt ?_ | refine .pf ?_ | refine .bx ?_ | refine .al ?_ | refine .st ?_ | refine .ad ?_ | refine .sb ?_ | refine .mf ?_ | refine .cl ?_ | refine .cw ?_ | refine .ck ?_ | fail
          refine Fin.two rfl rfl (Weak.eq ?_)
          rw [finC, if_neg (by omega)]
      · have v3 : decide ((c : Int) ≥ 55296) = false := decide_eq_false (by omega)
        repeat' first
          | refine .seq ?_ | refine .rg ?_ | refine .rd ?_ | refine .block ?_ | refine .scope ?_ | refine .skip ?_ | refine .label ?_ | refine .exit ?_ | refine .ret ?_
          | refine .ct ?_ | refine .cf ?_ | refine .cy ?_ | refine .cn ?_ | (refine .cond rfl ?_ ?_ <;> intro hc)
          | refine A.nil_seq ?_ | refine .nl ?_ | refine .dd ?_ | refine .ys ?_ | refine .no ?_ | (refine A.guard rfl ?_ ?_ <;> intro hc)
          | refine .lb ?_ | refine .ln ?_ | refine .ls ?_ | refine .pv ?_ | refine .ix ?_ | refine .pt ?_ | refine .pf ?_ | refine .bx ?_ | refine .al ?_ | refine .st ?_ | refine .ad ?_ | refine .sb ?_ | refine .mf ?_ | refine .cl ?_ | refine .cw ?_ | refine .ck ?_ | fail
        refine Fin.two rfl rfl (Weak.eq ?_)
        rw [finC, if_neg (by omega)]

theorem contAll_stop {s : Str} {i : Nat} : ∀ {n k j : Nat}, k ≤ j → j < k + n → contB (byteAt s i j) = false → contAll s i k n = false
  | 0, k, j, h1, h2, _ => by omega
  | n + 1, k, j, h1, h2, h => by
    rw [contAll]
    by_cases e : k = j
    · subst e; rw [h]; rfl
    · rw [contAll_stop (by omega) (by omega) h, Bool.and_false]
theorem contAll_all {s : Str} {i : Nat} : ∀ {n k : Nat}, (∀ j, k ≤ j → j < k + n → contB (byteAt s i j) = true) → contAll s i k n = true
  | 0, _, _ => rfl
  | n + 1, k, h => by
    rw [contAll, h k (Nat.le_refl _) (by omega), contAll_all fun j h1 h2 => h j (by omega) (by omega)]; rfl
attribute [local irreducible] Int.decLt Int.decLe Int.le Int.lt in
theorem codeRest (s : Str) (i N LO c0 : Nat) (hi : i < s.length) (hs : s.length ≤ 4611686018427387904) (hN : 2 ≤ N ∧ N ≤ 4) (hc0 : c0 < 32) :
    HCode Tryd.prog Tryd.f135.ntmps [] (tailOf 6 (bodyOf Tryd.f135)) (fin [4, 5] (fun e _ => ∃ v, e = .ret v ∧ Weak v (pairV (restC s i N LO c0))))
      [(6, .int .i64 (c0 : Int)), (7, .int .i64 (N : Int)), (8, .int .i64 (LO : Int)), (0, .str s), (1, .int .i64 (i : Int))] ⟨[], []⟩ := by
  unfold restC
  by_cases hn : N ≤ s.length - i
  · have d2 : decide ((N : Int) > (s.length : Int) - (i : Int)) = false := decide_eq_false (by omega)
    rw [if_pos hn]
    repeat' first
      | refine .seq ?_ | refine .rg ?_ | refine .rd ?_ | refine .block ?_ | refine .scope ?_ | refine .skip ?_ | refine .label ?_ | refine .exit ?_ | refine .ret ?_
      | refine .ct ?_ | refine .cf ?_ | refine .cy ?_ | refine .cn ?_ | (refine .cond rfl ?_ ?_ <;> intro hc)
      | refine A.nil_seq ?_ | refine .nl ?_ | refine .dd ?_ | refine .ys ?_ | refine .no ?_ | (refine A.guard rfl ?_ ?_ <;> intro hc)
      | refine .lb ?_ | refine .ln ?_ | refine .ls ?_ | refine .pv ?_ | refine .ix ?_ | refine .pt ?_ | refine .pf ?_ | refine .bx ?_ | refine .al ?_ | refine .st ?_ | refine .ad ?_ | refine .sb ?_ | refine .mf ?_ | refine .cl ?_ | refine .cw ?_ | refine .ck ?_ | fail
    change HCode _ _ _ _ _ _ _
    refine HCode.loop (fun n σs σ => ∃ j : Nat, n = N - 1 - j ∧ j ≤ N - 1 ∧ (∀ k, 1 ≤ k → k ≤ j → contB (byteAt s i k) = true) ∧ σ = ⟨[], []⟩ ∧
      σs = [(9, .int .i64 ((j + 1 : Nat) : Int)), (7, .int .i64 (N : Int)), (6, .int .i64 ((cAcc (byteAt s i) c0 j : Nat) : Int)), (0, .str s), (1, .int .i64 (i : Int)), (8, .int .i64 (LO : Int))])
      (s0 := [(9, .int .i64 ((0 + 1 : Nat) : Int)), (7, .int .i64 (N : Int)), (6, .int .i64 ((cAcc (byteAt s i) c0 0 : Nat) : Int)), (0, .str s), (1, .int .i64 (i : Int)), (8, .int .i64 (LO : Int))])
      ⟨rfl, rfl, rfl, rfl, rfl, rfl, trivial⟩ ⟨0, rfl, Nat.zero_le _, fun k h1 h2 => by omega, rfl, rfl⟩ ?_
    rintro n σs σ ⟨j, rfl, hj, hcont, rfl, rfl⟩
    have hacc := cAcc_lt (byteAt s i) hc0 (j := j) (by omega)
    by_cases h1 : j + 1 < N
    · have d3 : decide (((j + 1 : Nat) : Int) < (N : Int)) = true := decide_eq_true (by omega)
      have hk : i + (j + 1) < s.length := by omega
      have xk := get_str hk
      have hbk := UInt8.toNat_lt s[i + (j + 1)]
      have gk := byteAt_of (s := s) (i := i) (k := j + 1) hk
      by_cases k1 : s[i + (j + 1)].toNat < 128
      · have d4 : decide ((s[i + (j + 1)].toNat : Int) < 128) = true := decide_eq_true (by omega)
        have hq : contB (byteAt s i (j + 1)) = false := by rw [gk]; unfold contB; rw [decide_eq_false (by omega)]; rfl
        rw [contAll_stop (j := j + 1) (by omega) (by omega) hq, if_neg (by decide)]
        repeat' first
          | refine .seq ?_ | refine .rg ?_ | refine .rd ?_ | refine .block ?_ | refine .scope ?_ | refine .skip ?_ | refine .label ?_ | refine .exit ?_ | refine .ret ?_
          | refine .ct ?_ | refine .cf ?_ | refine .cy ?_ | refine .cn ?_ | (refine .cond rfl ?_ ?_ <;> intro hc)
          | refine A.nil_seq ?_ | refine .nl ?_ | refine .dd ?_ | refine .ys ?_ | refine .no ?_ | (refine A.guard rfl ?_ ?_ <;> intro hc)
          | refine .lb ?_ | refine .ln ?_ | refine .ls ?_ | refine .pv ?_ | refine .ix ?_ | refine .pt ?_ | refine .pf ?_ | refine .bx ?_ | refine .al ?_ | refine .st ?_ | refine .ad ?_ | refine .sb ?_ | refine .mf ?_ | refine .cl ?_ | refine .cw ?_ | refine .ck ?_
          | refine A.index_s (j := i + (j + 1)) rfl rfl rfl rfl rfl (by assumption) ?_ | refine A.conv rfl rfl rfl rfl (conv_u8 _) ?_ | fail
        exact Fin.two rfl rfl (Weak.refl _)
      · have d4 : decide ((s[i + (j + 1)].toNat : Int) < 128) = false := decide_eq_false (by omega)
        by_cases k2 : 191 < s[i + (j + 1)].toNat
        · have d5 : decide ((s[i + (j + 1)].toNat : Int) > 191) = true := decide_eq_true (by omega)
          have hq : contB (byteAt s i (j + 1)) = false := by rw [gk]; unfold contB; rw [decide_eq_true (by omega), decide_eq_false (by omega)]; rfl
          rw [contAll_stop (j := j + 1) (by omega) (by omega) hq, if_neg (by decide)]
          repeat' first
            | refine .seq ?_ | refine .rg ?_ | refine .rd ?_ | refine .block ?_ | refine .scope ?_ | refine .skip ?_ | refine .label ?_ | refine .exit ?_ | refine .ret ?_
            | refine .ct ?_ | refine .cf ?_ | refine .cy ?_ | refine .cn ?_ | (refine .cond rfl ?_ ?_ <;> intro hc)
            | refine A.nil_seq ?_ | refine .nl ?_ | refine .dd ?_ | refine .ys ?_ | refine .no ?_ | (refine A.guard rfl ?_ ?_ <;> intro hc)
            | refine .lb ?_ | refine .ln ?_ | refine .ls ?_ | refine .pv ?_ | refine .ix ?_ | refine .pt ?_ | refine .pf ?_ | refine .bx ?_ | refine .al ?_ | refine .st ?_ | refine .ad ?_ | refine .sb ?_ | refine .mf ?_ | refine .cl ?_ | refine .cw ?_ | refine .ck ?_
            | refine A.index_s (j := i + (j + 1)) rfl rfl rfl rfl rfl (by assumption) ?_ | refine A.conv rfl rfl rfl rfl (conv_u8 _) ?_ | fail
          exact Fin.two rfl rfl (Weak.refl _)
        · have d5 : decide ((s[i + (j + 1)].toNat : Int) > 191) = false := decide_eq_false (by omega)
          repeat' first
            | refine .seq ?_ | refine .rg ?_ | refine .rd ?_ | refine .block ?_ | refine .scope ?_ | refine .skip ?_ | refine .label ?_ | refine .exit ?_ | refine .ret ?_
            | refine .ct ?_ | refine .cf ?_ | refine .cy ?_ | refine .cn ?_ | (refine .cond rfl ?_ ?_ <;> intro hc)
            | refine A.nil_seq ?_ | refine .nl ?_ | refine .dd ?_ | refine .ys ?_ | refine .no ?_ | (refine A.guard rfl ?_ ?_ <;> intro hc)
            | refine .lb ?_ | refine .ln ?_ | refine .ls ?_ | refine .pv ?_ | refine .ix ?_ | refine .pt ?_ | refine .pf ?_ | refine .bx ?_ | refine .al ?_ | refine .st ?_ | refine .ad ?_ | refine .sb ?_ | refine .mf ?_ | refine .cl ?_ | refine .cw ?_ | refine .ck ?_
            | refine A.index_s (j := i + (j + 1)) rfl rfl rfl rfl rfl (by assumption) ?_ | refine A.conv rfl rfl rfl rfl (conv_u8 _) ?_ | refine A.shl6 rfl rfl rfl (by omega) ?_ | refine A.band (n := 63) rfl rfl rfl rfl (by omega) (by decide) (and63 _) ?_ | refine A.bor rfl rfl rfl rfl (by omega) (by omega) (or64 _ _ (by omega)) ?_ | fail
          refine ⟨N - 1 - (j + 1), by omega, [(9, .int .i64 ((j + 1 + 1 : Nat) : Int)), (7, .int .i64 (N : Int)), (6, .int .i64 ((cAcc (byteAt s i) c0 (j + 1) : Nat) : Int)), (0, .str s), (1, .int .i64 (i : Int)), (8, .int .i64 (LO : Int))],
            ⟨rfl, rfl, by rw [cAcc, gk]; rfl, rfl, rfl, rfl, trivial⟩, by simp [belowS, AV.low], rfl, j + 1, rfl, by omega, fun k q1 q2 => ?_, rfl, rfl⟩
          by_cases e : k = j + 1
          · subst e; rw [gk]; unfold contB; rw [decide_eq_true (by omega), decide_eq_true (by omega)]; rfl
          · exact hcont k q1 (by omega)
    · have d3 : decide (((j + 1 : Nat) : Int) < (N : Int)) = false := decide_eq_false (by omega)
      obtain rfl : j = N - 1 := by omega
      rw [contAll_all fun k q1 q2 => hcont k q1 (by omega), if_pos rfl]
      have hend := codeEnd N LO (cAcc (byteAt s i) c0 (N - 1))
      repeat' first
        | (refine HCode.weaken hend ?_; exact ⟨rfl, rfl, rfl, trivial⟩)
        | refine .seq ?_ | refine .rg ?_ | refine .rd ?_ | refine .block ?_ | refine .scope ?_ | refine .skip ?_ | refine .label ?_ | refine .exit ?_ | refine .ret ?_
        | refine .ct ?_ | refine .cf ?_ | refine .cy ?_ | refine .cn ?_ | (refine .cond rfl ?_ ?_ <;> intro hc)
        | refine A.nil_seq ?_ | refine .nl ?_ | refine .dd ?_ | refine .ys ?_ | refine .no ?_ | (refine A.guard rfl ?_ ?_ <;> intro hc)
        | refine .lb ?_ | refine .ln ?_ | refine .ls ?_ | refine .pv ?_ | refine .ix ?_ | refine .pt ?_ | refine .pf ?_ | refine .bx ?_ | refine .al ?_ | refine .st ?_ | refine .ad ?_ | refine .sb ?_ | refine .mf ?_ | refine .cl ?_ | refine .cw ?_ | refine .ck ?_ | fail
  · have d2 : decide ((N : Int) > (s.length : Int) - (i : Int)) = true := decide_eq_true (by omega)
    rw [if_neg hn]
    repeat' first
      | refine .seq ?_ | refine .rg ?_ | refine .rd ?_ | refine .block ?_ | refine .scope ?_ | refine .skip ?_ | refine .label ?_ | refine .exit ?_ | refine .ret ?_
      | refine .ct ?_ | refine .cf ?_ | refine .cy ?_ | refine .cn ?_ | (refine .cond rfl ?_ ?_ <;> intro hc)
      | refine A.nil_seq ?_ | refine .nl ?_ | refine .dd ?_ | refine .ys ?_ | refine .no ?_ | (refine A.guard rfl ?_ ?_ <;> intro hc)
      | refine .lb ?_ | refine .ln ?_ | refine .ls ?_ | refine .pv ?_ | refine .ix ?_ | refine .pt ?_ | refine .pf ?_ | refine .bx ?_ | refine .al ?_ | refine .st ?_ | refine .ad ?_ | refine .sb ?_ | refine .mf ?_ | refine .cl ?_ | refine .cw ?_ | refine .ck ?_ | fail
    exact Fin.two rfl rfl (Weak.refl _)
end Go.Proofs.YtijlmchfepjjkaaDoor
namespace Go.Proofs.YtijlmchfepjjkaaDoor
open Go Go.Av
set_option maxRecDepth 100000
set_option maxHeartbeats 16000000
set_option linter.unusedVariables false
set_option linter.unusedSimpArgs false
attribute [local irreducible] HCode AOps PFn AFn Av.Step TStep

theorem code_is {s : Str} {i : Nat} (hi : i < s.length) : codeL (s.drop i) = codeP (s.length - i) s[i].toNat (byteAt s i 1) (byteAt s i 2) (byteAt s i 3) := by
  have g0 : byteAt s i 0 = s[i].toNat := byteAt_of (k := 0) hi
  rw [codeL_eq, ← g0]; rfl
theorem code_2 {s : Str} {i : Nat} (hi : i < s.length) (h : 194 ≤ s[i].toNat ∧ s[i].toNat < 224) : codeL (s.drop i) = restC s i 2 128 (s[i].toNat % 32) := by
  rw [code_is hi, codeP, if_neg (by omega), if_pos h]
  unfold restC
  simp only [contAll, contB, cAcc, Nat.reduceSub, Bool.and_true, Bool.and_eq_true, decide_eq_true_eq]
  by_cases a : 2 ≤ s.length - i
  · rw [if_pos a]
    by_cases b : 128 ≤ byteAt s i 1 ∧ byteAt s i 1 ≤ 191
    · rw [if_pos ⟨a, b⟩, if_pos b]
    · rw [if_neg (fun h => b h.2), if_neg b]
  · rw [if_neg (fun h => a h.1), if_neg a]
theorem code_3 {s : Str} {i : Nat} (hi : i < s.length) (h : 224 ≤ s[i].toNat ∧ s[i].toNat < 240) : codeL (s.drop i) = restC s i 3 2048 (s[i].toNat % 16) := by
  rw [code_is hi, codeP, if_neg (by omega), if_neg (by omega), if_pos h]
  unfold restC
  simp only [contAll, contB, cAcc, Nat.reduceSub, Bool.and_true, Bool.and_eq_true, decide_eq_true_eq]
  by_cases a : 3 ≤ s.length - i
  · rw [if_pos a]
    by_cases b : (128 ≤ byteAt s i 1 ∧ byteAt s i 1 ≤ 191) ∧ (128 ≤ byteAt s i 2 ∧ byteAt s i 2 ≤ 191)
    · rw [if_pos ⟨a, b⟩, if_pos b]
    · rw [if_neg (fun h => b h.2), if_neg b]
  · rw [if_neg (fun h => a h.1), if_neg a]
theorem code_4 {s : Str} {i : Nat} (hi : i < s.length) (h : 240 ≤ s[i].toNat ∧ s[i].toNat < 245) : codeL (s.drop i) = restC s i 4 65536 (s[i].toNat % 8) := by
  rw [code_is hi, codeP, if_neg (by omega), if_neg (by omega), if_neg (by omega), if_pos h]
  unfold restC
  simp only [contAll, contB, cAcc, Nat.reduceSub, Bool.and_true, Bool.and_eq_true, decide_eq_true_eq]
  by_cases a : 4 ≤ s.length - i
  · rw [if_pos a]
    by_cases b : (128 ≤ byteAt s i 1 ∧ byteAt s i 1 ≤ 191) ∧ (128 ≤ byteAt s i 2 ∧ byteAt s i 2 ≤ 191) ∧ (128 ≤ byteAt s i 3 ∧ byteAt s i 3 ≤ 191)
    · rw [if_pos ⟨a, b⟩, if_pos b]
    · rw [if_neg (fun h => b h.2), if_neg b]
  · rw [if_neg (fun h => a h.1), if_neg a]
theorem code_1 {s : Str} {i : Nat} (hi : i < s.length) (h : s[i].toNat < 128) : codeL (s.drop i) = (s[i].toNat, 1) := by
  rw [code_is hi, codeP, if_pos h]
theorem code_0 {s : Str} {i : Nat} (hi : i < s.length) (h0 : ¬ s[i].toNat < 128) (h2 : ¬ (194 ≤ s[i].toNat ∧ s[i].toNat < 224)) (h3 : ¬ (224 ≤ s[i].toNat ∧ s[i].toNat < 240)) (h4 : ¬ (240 ≤ s[i].toNat ∧ s[i].toNat < 245)) : codeL (s.drop i) = (0, 0) := by
  rw [code_is hi, codeP, if_neg h0, if_neg h2, if_neg h3, if_neg h4]

attribute [local irreducible] Int.decLt Int.decLe Int.le Int.lt in
theorem rCode (s : Str) (i : Nat) (hi : i < s.length) (hs : s.length ≤ 4611686018427387904) :
    PFn Tryd.prog 135 [.str s, .int .i64 (i : Int)] (pairV (codeL (s.drop i))) := by
  have x0 := get_str hi
  have hb0 := UInt8.toNat_lt s[i]
  have hbN : s[i].toNat < 9223372036854775808 := by omega
  have e1 : decide ((i : Int) < 0) = false := decide_eq_false (by omega)
  have e2 : decide ((i : Int) ≥ (s.length : Int)) = false := decide_eq_false (by omega)
  by_cases c1 : s[i].toNat < 128
  · have d1 : decide ((s[i].toNat : Int) < 128) = true := decide_eq_true (by omega)
    rw [code_1 hi c1]
    refine AFn.plain rfl rfl (AFn.enter [4, 5] Tryd.func135 rfl rfl rfl rfl rfl (by decide) ?_)
    repeat' first
      | refine .seq ?_ | refine .rg ?_ | refine .rd ?_ | refine .block ?_ | refine .scope ?_ | refine .skip ?_ | refine .label ?_ | refine .exit ?_ | refine .ret ?_
      | refine .ct ?_ | refine .cf ?_ | refine .cy ?_ | refine .cn ?_ | (refine .cond rfl ?_ ?_ <;> intro hc)
      | refine A.nil_seq ?_ | refine .nl ?_ | refine .dd ?_ | refine .ys ?_ | refine .no ?_ | (refine A.guard rfl ?_ ?_ <;> intro hc)
      | refine .lb ?_ | refine .ln ?_ | refine .ls ?_ | refine .pv ?_ | refine .ix ?_ | refine .pt ?_ | refine .pf ?_ | refine .bx ?_ | refine .al ?_ | refine .st ?_ | refine .ad ?_ | refine .sb ?_ | refine .mf ?_ | refine .cl ?_ | refine .cw ?_ | refine .ck ?_
      | refine A.index_s rfl rfl rfl rfl rfl (by assumption) ?_ | refine A.conv rfl rfl rfl rfl (conv_u8 _) ?_ | fail
    exact Fin.two rfl rfl (Weak.refl _)
  · have d1 : decide ((s[i].toNat : Int) < 128) = false := decide_eq_false (by omega)
    by_cases c2 : 194 ≤ s[i].toNat ∧ s[i].toNat < 224
    · have f1 : decide ((s[i].toNat : Int) ≥ 194) = true := decide_eq_true (by omega)
      have f2 : decide ((s[i].toNat : Int) < 224) = true := decide_eq_true (by omega)
      have hrest := codeRest s i 2 128 (s[i].toNat % 32) hi hs ⟨by decide, by decide⟩ (by omega)
      rw [code_2 hi c2]
      refine AFn.plain rfl rfl (AFn.enter [4, 5] Tryd.func135 rfl rfl rfl rfl rfl (by decide) ?_)
      repeat' first
        | (refine HCode.weaken hrest ?_; exact ⟨rfl, rfl, rfl, rfl, rfl, trivial⟩)
        | refine .seq ?_ | refine .rg ?_ | refine .rd ?_ | refine .block ?_ | refine .scope ?_ | refine .skip ?_ | refine .label ?_ | refine .exit ?_ | refine .ret ?_
        | refine .ct ?_ | refine .cf ?_ | refine .cy ?_ | refine .cn ?_ | (refine .cond rfl ?_ ?_ <;> intro hc)
        | refine A.nil_seq ?_ | refine .nl ?_ | refine .dd ?_ | refine .ys ?_ | refine .no ?_ | (refine A.guard rfl ?_ ?_ <;> intro hc)
        | refine .lb ?_ | refine .ln ?_ | refine .ls ?_ | refine .pv ?_ | refine .ix ?_ | refine .pt ?_ | refine .pf ?_ | refine .bx ?_ | refine .al ?_ | refine .st ?_ | refine .ad ?_ | refine .sb ?_ | refine .mf ?_ | refine .cl ?_ | refine .cw ?_ | refine .ck ?_
        | refine A.index_s rfl rfl rfl rfl rfl (by assumption) ?_ | refine A.conv rfl rfl rfl rfl (conv_u8 _) ?_ | refine A.band (n := 31) rfl rfl rfl rfl hbN (by decide) (and31 _) ?_ | fail
    · by_cases c3 : 224 ≤ s[i].toNat ∧ s[i].toNat < 240
      · have f1 : decide ((s[i].toNat : Int) ≥ 194) = true := decide_eq_true (by omega)
        have f2 : decide ((s[i].toNat : Int) < 224) = false := decide_eq_false (by omega)
        have f3 : decide ((s[i].toNat : Int) ≥ 224) = true := decide_eq_true (by omega)
        have f4 : decide ((s[i].toNat : Int) < 240) = true := decide_eq_true (by omega)
        have hrest := codeRest s i 3 2048 (s[i].toNat % 16) hi hs ⟨by decide, by decide⟩ (by omega)
        rw [code_3 hi c3]
        refine AFn.plain rfl rfl (AFn.enter [4, 5] Tryd.func135 rfl rfl rfl rfl rfl (by decide) ?_)
        repeat' first
          | (refine HCode.weaken hrest ?_; exact ⟨rfl, rfl, rfl, rfl, rfl, trivial⟩)
          | refine .seq ?_ | refine .rg ?_ | refine .rd ?_ | refine .block ?_ | refine .scope ?_ | refine .skip ?_ | refine .label ?_ | refine .exit ?_ | refine .ret ?_
          | refine .ct ?_ | refine .cf ?_ | refine .cy ?_ | refine .cn ?_ | (refine .cond rfl ?_ ?_ <;> intro hc)
          | refine A.nil_seq ?_ | refine .nl ?_ | refine .dd ?_ | refine .ys ?_ | refine .no ?_ | (refine A.guard rfl ?_ ?_ <;> intro hc)
          | refine .lb ?_ | refine .ln ?_ | refine .ls ?_ | refine .pv ?_ | refine .ix ?_ | refine .pt ?_ | refine .pf ?_ | refine .bx ?_ | refine .al ?_ | refine .st ?_ | refine .ad ?_ | refine .sb ?_ | refine .mf ?_ | refine .cl ?_ | refine .cw ?_ | refine .ck ?_
          | refine A.index_s rfl rfl rfl rfl rfl (by assumption) ?_ | refine A.conv rfl rfl rfl rfl (conv_u8 _) ?_ | refine A.band (n := 15) rfl rfl rfl rfl hbN (by decide) (and15 _) ?_ | fail
      · by_cases c4 : 240 ≤ s[i].toNat ∧ s[i].toNat < 245
        · have f1 : decide ((s[i].toNat : Int) ≥ 194) = true := decide_eq_true (by omega)
          have f2 : decide ((s[i].toNat : Int) < 224) = false := decide_eq_false (by omega)
          have f3 : decide ((s[i].toNat : Int) ≥ 224) = true := decide_eq_true (by omega)
          have f4 : decide ((s[i].toNat : Int) < 240) = false := decide_eq_false (by omega)
          have f5 : decide ((s[i].toNat : Int) ≥ 240) = true := decide_eq_true (by omega)
          have f6 : decide ((s[i].toNat : Int) < 245) = true := decide_eq_true (by omega)
          have hrest := codeRest s i 4 65536 (s[i].toNat % 8) hi hs ⟨by decide, by decide⟩ (by omega)
          rw [code_4 hi c4]
          refine AFn.plain rfl rfl (AFn.enter [4, 5] Tryd.func135 rfl rfl rfl rfl rfl (by decide) ?_)
          repeat' first
            | (refine HCode.weaken hrest ?_; exact ⟨rfl, rfl, rfl, rfl, rfl, trivial⟩)
            | refine .seq ?_ | refine .rg ?_ | refine .rd ?_ | refine .block ?_ | refine .scope ?_ | refine .skip ?_ | refine .label ?_ | refine .exit ?_ | refine .ret ?_
            | refine .ct ?_ | refine .cf ?_ | refine .cy ?_ | refine .cn ?_ | (refine .cond rfl ?_ ?_ <;> intro hc)
            | refine A.nil_seq ?_ | refine .nl ?_ | refine .dd ?_ | refine .ys ?_ | refine .no ?_ | (refine A.guard rfl ?_ ?_ <;> intro hc)
            | refine .lb ?_ | refine .ln ?_ | refine .ls ?_ | refine .pv ?_ | refine .ix ?_ | refine .pt ?_ | refine .pf ?_ | refine .bx ?_ | refine .al ?_ | refine .st ?_ | refine .ad ?_ | refine .sb ?_ | refine .mf ?_ | refine .cl ?_ | refine .cw ?_ | refine .ck ?_
            | refine A.index_s rfl rfl rfl rfl rfl (by assumption) ?_ | refine A.conv rfl rfl rfl rfl (conv_u8 _) ?_ | refine A.band (n := 7) rfl rfl rfl rfl hbN (by decide) (Go.Av.and7 _) ?_ | fail
        · rw [code_0 hi c1 c2 c3 c4]
          refine AFn.plain rfl rfl (AFn.enter [4, 5] Tryd.func135 rfl rfl rfl rfl rfl (by decide) ?_)
          by_cases c5 : s[i].toNat < 194
          · have f1 : decide ((s[i].toNat : Int) ≥ 194) = false := decide_eq_false (by omega)
            have f3 : decide ((s[i].toNat : Int) ≥ 224) = false := decide_eq_false (by omega)
            have f5 : decide ((s[i].toNat : Int) ≥ 240) = false := decide_eq_false (by omega)
            repeat' first
              | refine .seq ?_ | refine .rg ?_ | refine .rd ?_ | refine .block ?_ | refine .scope ?_ | refine .skip ?_ | refine .label ?_ | refine .exit ?_ | refine .ret ?_
              | refine .ct ?_ | refine .cf ?_ | refine .cy ?_ | refine .cn ?_ | (refine .cond rfl ?_ ?_ <;> intro hc)
              | refine A.nil_seq ?_ | refine .nl ?_ | refine .dd ?_ | refine .ys ?_ | refine .no ?_ | (refine A.guard rfl ?_ ?_ <;> intro hc)
              | refine .lb ?_ | refine .ln ?_ | refine .ls ?_ | refine .pv ?_ | refine .ix ?_ | refine .pt ?_ | refine .pf ?_ | refine .bx ?_ | refine .al ?_ | refine .st ?_ | refine .ad ?_ | refine .sb ?_ | refine .mf ?_ | refine .cl ?_ | refine .cw ?_ | refine .ck ?_
              | refine A.index_s rfl rfl rfl rfl rfl (by assumption) ?_ | refine A.conv rfl rfl rfl rfl (conv_u8 _) ?_ | fail
            exact Fin.two rfl rfl (Weak.refl _)
          · have f1 : decide ((s[i].toNat : Int) ≥ 194) = true := decide_eq_true (by omega)
            have f2 : decide ((s[i].toNat : Int) < 224) = false := decide_eq_false (by omega)
            have f3 : decide ((s[i].toNat : Int) ≥ 224) = true := decide_eq_true (by omega)
            have f4 : decide ((s[i].toNat : Int) < 240) = false := decide_eq_false (by omega)
            have f5 : decide ((s[i].toNat : Int) ≥ 240) = true := decide_eq_true (by omega)
            have f6 : decide ((s[i].toNat : Int) < 245) = false := decide_eq_false (by omega)
            repeat' first
              | refine .seq ?_ | refine .rg ?_ | refine .rd ?_ | refine .block ?_ | refine .scope ?_ | refine .skip ?_ | refine .label ?_ | refine .exit ?_ | refine .ret ?_
              | refine .ct ?_ | refine .cf ?_ | refine .cy ?_ | refine .cn ?_ | (refine .cond rfl ?_ ?_ <;> intro hc)
              | refine A.nil_seq ?_ | refine .nl ?_ | refine .dd ?_ | refine .ys ?_ | refine .no ?_ | (refine A.guard rfl ?_ ?_ <;> intro hc)
              | refine .lb ?_ | refine .ln ?_ | refine .ls ?_ | refine .pv ?_ | refine .ix ?_ | refine .pt ?_ | refine .pf ?_ | refine .bx ?_ | refine .al ?_ | refine .st ?_ | refine .ad ?_ | refine .sb ?_ | refine .mf ?_ | refine .cl ?_ | refine .cw ?_ | refine .ck ?_
              | refine A.index_s rfl rfl rfl rfl rfl (by assumption) ?_ | refine A.conv rfl rfl rfl rfl (conv_u8 _) ?_ | fail
            exact Fin.two rfl rfl (Weak.refl _)
end Go.Proofs.YtijlmchfepjjkaaDoor
namespace Go.Proofs.YtijlmchfepjjkaaDoor
open Go Go.Av
set_option maxRecDepth 100000
set_option linter.unusedVariables false

/-- Lists of texts. -/
abbrev strsE (l : List Str) : AV := .slice (l.map AV.str) .no
structure Typ where
  name : Str
  lists : Int
  musts : Int
  deriving DecidableEq
def Typ.enc (t : Typ) : AV := .agg [.str t.name, .int .i64 t.lists, .int .i64 t.musts]
structure Dirc where
  name : Str
  args : List Mem
def Dirc.enc (d : Dirc) : AV := .agg [.str d.name, .slice (d.args.map Mem.enc) .no]
structure Par where
  name : Str
  t : Typ
  has : Bool
  d : Val
def Par.enc (p : Par) : AV := .agg [.str p.name, .str p.t.name, .int .i64 p.t.lists, .int .i64 p.t.musts, .bool p.has, .int .i64 p.d.kind, .int .i64 p.d.n, .str p.d.s, .slice p.d.lv .no, .slice p.d.mv .no]
structure Fld where
  name : Str
  params : List Par
  t : Typ
  dirs : List Dirc
def Fld.enc (f : Fld) : AV := .agg [.str f.name, .slice (f.params.map Par.enc) .no, .str f.t.name, .int .i64 f.t.lists, .int .i64 f.t.musts, .slice (f.dirs.map Dirc.enc) .no]
structure Dfn where
  kind : Int
  name : Str
  faces : List Str
  fields : List Fld
  parts : List Str
  params : List Par
def Dfn.enc (d : Dfn) : AV := .agg [.int .i64 d.kind, .str d.name, .slice (d.faces.map AV.str) .no, .slice (d.fields.map Fld.enc) .no, .slice (d.parts.map AV.str) .no, .slice (d.params.map Par.enc) .no]
structure Sch where
  defs : List Dfn
  query : Str
  mutation : Str
def Sch.enc (s : Sch) : AV := .agg [.slice (s.defs.map Dfn.enc) .no, .str s.query, .str s.mutation]
structure Spt where
  var : Str
  t : Typ
  has : Bool
  deriving DecidableEq
def Spt.enc (x : Spt) : AV := .agg [.str x.var, .str x.t.name, .int .i64 x.t.lists, .int .i64 x.t.musts, .bool x.has]

theorem str_closedL (l : List Str) : AV.closedL (l.map AV.str) = true := closedL_map (fun _ => rfl) l
theorem int_closedL (l : List Int) : AV.closedL (l.map (AV.int .i64)) = true := closedL_map (fun _ => rfl) l
@[simp] theorem lowL_int (n m : Nat) (l : List Int) : AV.lowL n m (List.map (AV.int .i64) l) = true := AV.lowL_of_closed n m _ (int_closedL l)
theorem Typ.closed (t : Typ) : t.enc.closed = true := rfl
theorem Dirc.closed (d : Dirc) : d.enc.closed = true := by simp [Dirc.enc, AV.closed, AV.closedL, Mem.closedL]
theorem Dirc.closedL (l : List Dirc) : AV.closedL (l.map Dirc.enc) = true := closedL_map Dirc.closed l
theorem Par.closed (p : Par) : p.enc.closed = true := by simp [Par.enc, AV.closed, AV.closedL, Val.lv_closed, Val.mv_closed]
theorem Par.closedL (l : List Par) : AV.closedL (l.map Par.enc) = true := closedL_map Par.closed l
theorem Fld.closed (f : Fld) : f.enc.closed = true := by simp [Fld.enc, AV.closed, AV.closedL, Par.closedL, Dirc.closedL]
theorem Fld.closedL (l : List Fld) : AV.closedL (l.map Fld.enc) = true := closedL_map Fld.closed l
theorem Dfn.closed (d : Dfn) : d.enc.closed = true := by simp [Dfn.enc, AV.closed, AV.closedL, Par.closedL, Fld.closedL, str_closedL]
theorem Dfn.closedL (l : List Dfn) : AV.closedL (l.map Dfn.enc) = true := closedL_map Dfn.closed l
theorem Sch.closed (s : Sch) : s.enc.closed = true := by simp [Sch.enc, AV.closed, AV.closedL, Dfn.closedL]
theorem Spt.closed (x : Spt) : x.enc.closed = true := rfl
theorem Spt.closedL (l : List Spt) : AV.closedL (l.map Spt.enc) = true := closedL_map Spt.closed l
@[simp] theorem lowL_str (n m : Nat) (l : List _) : AV.lowL n m (List.map AV.str l) = true := AV.lowL_of_closed n m _ (str_closedL l)
@[simp] theorem lowL_Dirc (n m : Nat) (l : List _) : AV.lowL n m (List.map Dirc.enc l) = true := AV.lowL_of_closed n m _ (Dirc.closedL l)
@[simp] theorem lowL_Par (n m : Nat) (l : List _) : AV.lowL n m (List.map Par.enc l) = true := AV.lowL_of_closed n m _ (Par.closedL l)
@[simp] theorem lowL_Fld (n m : Nat) (l : List _) : AV.lowL n m (List.map Fld.enc l) = true := AV.lowL_of_closed n m _ (Fld.closedL l)
@[simp] theorem lowL_Dfn (n m : Nat) (l : List _) : AV.lowL n m (List.map Dfn.enc l) = true := AV.lowL_of_closed n m _ (Dfn.closedL l)
@[simp] theorem lowL_Spt (n m : Nat) (l : List _) : AV.lowL n m (List.map Spt.enc l) = true := AV.lowL_of_closed n m _ (Spt.closedL l)
@[simp] theorem lowL_mem (n m : Nat) (l : List _) : AV.lowL n m (List.map Mem.enc l) = true := AV.lowL_of_closed n m _ (Mem.closedL l)
@[simp] theorem lowL_val (n m : Nat) (l : List Val) : AV.lowL n m (List.map Val.enc l) = true := AV.lowL_of_closed n m _ (Val.closedL' l)
@[simp] theorem lowL_lv (n m : Nat) (v : Val) : AV.lowL n m v.lv = true := AV.lowL_of_closed n m _ v.lv_closed
@[simp] theorem lowL_mv (n m : Nat) (v : Val) : AV.lowL n m v.mv = true := AV.lowL_of_closed n m _ v.mv_closed
@[simp] theorem low_Typ (n m : Nat) (x : Typ) : (Typ.enc x).low n m = true := AV.low_of_closed n m _ (Typ.closed x)
@[simp] theorem low_Dirc (n m : Nat) (x : Dirc) : (Dirc.enc x).low n m = true := AV.low_of_closed n m _ (Dirc.closed x)
@[simp] theorem low_Par (n m : Nat) (x : Par) : (Par.enc x).low n m = true := AV.low_of_closed n m _ (Par.closed x)
@[simp] theorem low_Fld (n m : Nat) (x : Fld) : (Fld.enc x).low n m = true := AV.low_of_closed n m _ (Fld.closed x)
@[simp] theorem low_Dfn (n m : Nat) (x : Dfn) : (Dfn.enc x).low n m = true := AV.low_of_closed n m _ (Dfn.closed x)
@[simp] theorem low_Sch (n m : Nat) (x : Sch) : (Sch.enc x).low n m = true := AV.low_of_closed n m _ (Sch.closed x)
@[simp] theorem low_Spt (n m : Nat) (x : Spt) : (Spt.enc x).low n m = true := AV.low_of_closed n m _ (Spt.closed x)
@[simp] theorem low_Val (n m : Nat) (x : Val) : (Val.enc x).low n m = true := AV.low_of_closed n m _ (Val.closed x)
@[simp] theorem low_Mem (n m : Nat) (x : Mem) : (Mem.enc x).low n m = true := AV.low_of_closed n m _ (Mem.closed x)

theorem Typ.fits (t : Typ) : Av.fits true 3 t.enc = true := rfl
theorem Dirc.fits (d : Dirc) : Av.fits true 2 d.enc = true := rfl
theorem Dirc.fitsAll (l : List Dirc) : Av.fitsAll true 2 (l.map Dirc.enc) = true := fitsAll_map Dirc.fits l
theorem Par.fits (d : Par) : Av.fits true 10 d.enc = true := rfl
theorem Par.fitsAll (l : List Par) : Av.fitsAll true 10 (l.map Par.enc) = true := fitsAll_map Par.fits l
theorem Fld.fits (d : Fld) : Av.fits true 6 d.enc = true := rfl
theorem Fld.fitsAll (l : List Fld) : Av.fitsAll true 6 (l.map Fld.enc) = true := fitsAll_map Fld.fits l
theorem Dfn.fits (d : Dfn) : Av.fits true 6 d.enc = true := rfl
theorem Dfn.fitsAll (l : List Dfn) : Av.fitsAll true 6 (l.map Dfn.enc) = true := fitsAll_map Dfn.fits l
theorem Spt.fits (d : Spt) : Av.fits true 5 d.enc = true := rfl
theorem Spt.fitsAll (l : List Spt) : Av.fitsAll true 5 (l.map Spt.enc) = true := fitsAll_map Spt.fits l
theorem str_fitsAll (l : List Str) : Av.fitsAll false 1 (l.map AV.str) = true := fitsAll_map (fun _ => rfl) l

def Typ.size (t : Typ) : Nat := t.name.length + 4
def Dirc.size (d : Dirc) : Nat := d.name.length + sumSize Mem.size d.args + 3
def Par.size (p : Par) : Nat := p.name.length + p.t.size + p.d.size + 3
def Fld.size (f : Fld) : Nat := f.name.length + sumSize Par.size f.params + f.t.size + sumSize Dirc.size f.dirs + 4
def strsSize (l : List Str) : Nat := sumSize (fun s : Str => s.length + 1) l + 1
def Dfn.size (d : Dfn) : Nat := d.name.length + strsSize d.faces + sumSize Fld.size d.fields + strsSize d.parts + sumSize Par.size d.params + 5
def Sch.size (s : Sch) : Nat := sumSize Dfn.size s.defs + s.query.length + s.mutation.length + 4
def Dirc.ok (d : Dirc) : Prop := ∀ m ∈ d.args, m.ok
def Par.ok (p : Par) : Prop := p.d.ok
def Fld.ok (f : Fld) : Prop := (∀ p ∈ f.params, p.ok) ∧ ∀ d ∈ f.dirs, d.ok
def Dfn.ok (d : Dfn) : Prop := (∀ f ∈ d.fields, f.ok) ∧ ∀ p ∈ d.params, p.ok
def Sch.ok (s : Sch) : Prop := ∀ d ∈ s.defs, d.ok

theorem reads_bool' (n : Nat) : ReadN Tryd.prog n 4 false (fun x : Bool => .bool x) (fun _ => 1) (fun _ => True) := ReadN.bool Tryd.underlying4
theorem reads_strs : ∀ n : Nat, ReadN Tryd.prog n 70 false (fun l : List Str => .slice (l.map AV.str) .no) (fun l => sumSize (fun x : Str => x.length + 1) l + 1) (fun l => ∀ x ∈ l, True)
  | 0 => ReadN.zero
  | n + 1 => ReadN.slice Tryd.underlying70 (c := 1) (by kernel_rfl) (by decide) (reads_str n)
theorem reads_typ : ∀ n : Nat, ReadN Tryd.prog n 60 true Typ.enc Typ.size (fun _ => True)
  | 0 => ReadN.zero
  | n + 1 => (ReadN.struct Tryd.underlying60 (by kernel_rfl)
      (ReadF.cons (c := 1) rfl (by kernel_rfl) (one_cell fun _ => rfl) (reads_str n)
        (ReadF.cons (c := 1) rfl (by kernel_rfl) (one_cell fun _ => rfl) (reads_int n)
          (ReadF.cons (c := 1) rfl (by kernel_rfl) (one_cell fun _ => rfl) (reads_int n) ReadF.nil)))).map
      (fun x => (⟨x.1, x.2.1, x.2.2.1⟩ : Typ)) (fun _ => rfl) (fun x => by simp only [Typ.size]; omega) (fun x h => trivial)
theorem reads_dir : ∀ n : Nat, ReadN Tryd.prog n 143 true Dirc.enc Dirc.size Dirc.ok
  | 0 => ReadN.zero
  | n + 1 => (ReadN.struct Tryd.underlying143 (by kernel_rfl)
      (ReadF.cons (c := 1) rfl (by kernel_rfl) (one_cell fun _ => rfl) (reads_str n)
        (ReadF.cons (c := 1) rfl (by kernel_rfl) (one_cell fun _ => rfl) (reads_mems n) ReadF.nil))).map
      (fun x => (⟨x.1, x.2.1⟩ : Dirc)) (fun _ => rfl) (fun x => by simp only [Dirc.size]; omega) (fun x h => h.2.1)
theorem reads_dirs : ∀ n : Nat, ReadN Tryd.prog n 101 false (fun l => .slice (l.map Dirc.enc) .no) (fun l => sumSize Dirc.size l + 1) (fun l => ∀ x ∈ l, x.ok)
  | 0 => ReadN.zero
  | n + 1 => ReadN.slice Tryd.underlying101 (c := 2) (by kernel_rfl) (by decide) (reads_dir n)
theorem reads_par : ∀ n : Nat, ReadN Tryd.prog n 86 true Par.enc Par.size Par.ok
  | 0 => ReadN.zero
  | n + 1 => (ReadN.struct Tryd.underlying86 (by kernel_rfl)
      (ReadF.cons (c := 1) rfl (by kernel_rfl) (one_cell fun _ => rfl) (reads_str n)
        (ReadF.cons (c := 3) rfl (by kernel_rfl) (flat_cells fun _ => ⟨_, rfl⟩) (reads_typ n)
          (ReadF.cons (c := 1) rfl (by kernel_rfl) (one_cell fun _ => rfl) (reads_bool' n)
            (ReadF.cons (c := 5) rfl (by kernel_rfl) (flat_cells fun _ => ⟨_, rfl⟩) (reads_val n) ReadF.nil))))).map
      (fun x => (⟨x.1, x.2.1, x.2.2.1, x.2.2.2.1⟩ : Par)) (fun _ => rfl) (fun x => by simp only [Par.size]; omega) (fun x h => h.2.2.2.1)
theorem reads_pars : ∀ n : Nat, ReadN Tryd.prog n 76 false (fun l => .slice (l.map Par.enc) .no) (fun l => sumSize Par.size l + 1) (fun l => ∀ x ∈ l, x.ok)
  | 0 => ReadN.zero
  | n + 1 => ReadN.slice Tryd.underlying76 (c := 10) (by kernel_rfl) (by decide) (reads_par n)
theorem reads_fld : ∀ n : Nat, ReadN Tryd.prog n 103 true Fld.enc Fld.size Fld.ok
  | 0 => ReadN.zero
  | n + 1 => (ReadN.struct Tryd.underlying103 (by kernel_rfl)
      (ReadF.cons (c := 1) rfl (by kernel_rfl) (one_cell fun _ => rfl) (reads_str n)
        (ReadF.cons (c := 1) rfl (by kernel_rfl) (one_cell fun _ => rfl) (reads_pars n)
          (ReadF.cons (c := 3) rfl (by kernel_rfl) (flat_cells fun _ => ⟨_, rfl⟩) (reads_typ n)
            (ReadF.cons (c := 1) rfl (by kernel_rfl) (one_cell fun _ => rfl) (reads_dirs n) ReadF.nil))))).map
      (fun x => (⟨x.1, x.2.1, x.2.2.1, x.2.2.2.1⟩ : Fld)) (fun _ => rfl) (fun x => by simp only [Fld.size]; omega) (fun x h => ⟨h.2.1, h.2.2.2.1⟩)
theorem reads_flds : ∀ n : Nat, ReadN Tryd.prog n 78 false (fun l => .slice (l.map Fld.enc) .no) (fun l => sumSize Fld.size l + 1) (fun l => ∀ x ∈ l, x.ok)
  | 0 => ReadN.zero
  | n + 1 => ReadN.slice Tryd.underlying78 (c := 6) (by kernel_rfl) (by decide) (reads_fld n)
theorem reads_dfn : ∀ n : Nat, ReadN Tryd.prog n 80 true Dfn.enc Dfn.size Dfn.ok
  | 0 => ReadN.zero
  | n + 1 => (ReadN.struct Tryd.underlying80 (by kernel_rfl)
      (ReadF.cons (c := 1) rfl (by kernel_rfl) (one_cell fun _ => rfl) (reads_int n)
        (ReadF.cons (c := 1) rfl (by kernel_rfl) (one_cell fun _ => rfl) (reads_str n)
          (ReadF.cons (c := 1) rfl (by kernel_rfl) (one_cell fun _ => rfl) (reads_strs n)
            (ReadF.cons (c := 1) rfl (by kernel_rfl) (one_cell fun _ => rfl) (reads_flds n)
              (ReadF.cons (c := 1) rfl (by kernel_rfl) (one_cell fun _ => rfl) (reads_strs n)
                (ReadF.cons (c := 1) rfl (by kernel_rfl) (one_cell fun _ => rfl) (reads_pars n) ReadF.nil))))))).map
      (fun x => (⟨x.1, x.2.1, x.2.2.1, x.2.2.2.1, x.2.2.2.2.1, x.2.2.2.2.2.1⟩ : Dfn)) (fun _ => rfl) (fun x => by simp only [Dfn.size, strsSize]; omega) (fun x h => ⟨h.2.2.2.1, h.2.2.2.2.2.1⟩)
theorem reads_dfns : ∀ n : Nat, ReadN Tryd.prog n 22 false (fun l => .slice (l.map Dfn.enc) .no) (fun l => sumSize Dfn.size l + 1) (fun l => ∀ x ∈ l, x.ok)
  | 0 => ReadN.zero
  | n + 1 => ReadN.slice Tryd.underlying22 (c := 6) (by kernel_rfl) (by decide) (reads_dfn n)
theorem reads_sch : ∀ n : Nat, ReadN Tryd.prog n 24 true Sch.enc Sch.size Sch.ok
  | 0 => ReadN.zero
  | n + 1 => (ReadN.struct Tryd.underlying24 (by kernel_rfl)
      (ReadF.cons (c := 1) rfl (by kernel_rfl) (one_cell fun _ => rfl) (reads_dfns n)
        (ReadF.cons (c := 1) rfl (by kernel_rfl) (one_cell fun _ => rfl) (reads_str n)
          (ReadF.cons (c := 1) rfl (by kernel_rfl) (one_cell fun _ => rfl) (reads_str n) ReadF.nil)))).map
      (fun x => (⟨x.1, x.2.1, x.2.2.1⟩ : Sch)) (fun _ => rfl) (fun x => by simp only [Sch.size]; omega) (fun x h => h.1)
end Go.Proofs.YtijlmchfepjjkaaDoor
