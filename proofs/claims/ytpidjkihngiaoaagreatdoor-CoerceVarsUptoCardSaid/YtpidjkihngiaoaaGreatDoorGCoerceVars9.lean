/-
  The reference: Code.
  The reference: Code, whole.
  The reference: start, digit, Name, Has, RightType, Item, Is.
-/
import Derived.Test.YtpidjkihngiaoaaGreatDoorGCoerceVars8
import Derived.Test.YtpidjkihngiaoaaGreatDoorGCoerceVars2
import Derived.Test.YtpidjkihngiaoaaGreatDoorGCoerceVars3
namespace Go.Proofs.YtpidjkihngiaoaaGreatDoor
open Go Go.Av
set_option maxRecDepth 100000
set_option maxHeartbeats 16000000
set_option linter.unusedVariables false
set_option linter.unusedSimpArgs false
attribute [local irreducible] HCode AOps PFn AFn Av.Step TStep

theorem conv_u8 (c : UInt8) : IntKind.i64.wrap (c.toNat : Int) = (c.toNat : Int) := wrap_nat (by have := UInt8.toNat_lt c; omega)
def cAcc (f : Nat → Nat) (c0 : Nat) : Nat → Nat
  | 0 => c0
  | j + 1 => cAcc f c0 j * 64 + f (j + 1) % 64
theorem cAcc_lt (f : Nat → Nat) {c0 : Nat} (h0 : c0 < 32) : ∀ {j : Nat}, j ≤ 3 → cAcc f c0 j < 8388608
  | 0, _ => by rw [cAcc]; omega
  | 1, _ => by rw [cAcc, cAcc]; omega
  | 2, _ => by rw [cAcc, cAcc, cAcc]; omega
  | 3, _ => by rw [cAcc, cAcc, cAcc, cAcc]; omega
def byteAt (s : Str) (i k : Nat) : Nat := (s.getD (i + k) 0).toNat
theorem byteAt_of {s : Str} {i k : Nat} (h : i + k < s.length) : byteAt s i k = s[i + k].toNat := by unfold byteAt; simp [List.getD, h]
def contB (b : Nat) : Bool := decide (128 ≤ b) && decide (b ≤ 191)
/-- The bytes behind the first, from the k-th on. -/
def contAll (s : Str) (i : Nat) : Nat → Nat → Bool
  | _, 0 => true
  | k, n + 1 => contB (byteAt s i k) && contAll s i (k + 1) n
/-- What Code tells, as soon as the first byte is read. -/
def restC (s : Str) (i N LO c0 : Nat) : Nat × Nat := if N ≤ s.length - i then (if contAll s i 1 (N - 1) = true then finC (cAcc (byteAt s i) c0 (N - 1)) LO N else (0, 0)) else (0, 0)
abbrev pairV (p : Nat × Nat) : AV := .tup [.int .i64 (p.1 : Int), .int .i64 (p.2 : Int)]

attribute [local irreducible] Int.decLt Int.decLe Int.le Int.lt in
theorem codeEnd (N LO c : Nat) : HCode Tryz.prog Tryz.f216.ntmps [] (tailOf 8 (bodyOf Tryz.f216)) (fin [4, 5] (fun e _ => ∃ v, e = .ret v ∧ Weak v (pairV (finC c LO N))))
    [(6, .int .i64 (c : Int)), (7, .int .i64 (N : Int)), (8, .int .i64 (LO : Int))] ⟨[], []⟩ := by
  by_cases w1 : c < LO
  · have v1 : decide ((c : Int) < (LO : Int)) = true := decide_eq_true (by omega)
    repeat' first
      | refine .seq ?_ | refine .rg ?_ | refine .rd ?_ | refine .block ?_ | refine .scope ?_ | refine .skip ?_ | refine .label ?_ | refine .exit ?_ | refine .ret ?_
      | refine .ct ?_ | refine .cf ?_ | refine .cy ?_ | refine .cn ?_ | (refine .cond rfl ?_ ?_ <;> intro hc)
      | refine A.nil_seq ?_ | refine .nl ?_ | refine .dd ?_ | refine .ys ?_ | refine .no ?_ | (refine A.guard rfl ?_ ?_ <;> intro hc)
      | refine .lb ?_ | refine .ln ?_ | refine .ls ?_ | refine .pv ?_ | refine .ix ?_ | refine .pt ?_ | refine .pf ?_ | refine .bx ?_ | refine .al ?_ | refine .st ?_ | refine .ad ?_ | refine .sb ?_ | refine .mf ?_ | refine .cl ?_ | refine .cw ?_ | refine .ck ?_ | fail
    refine Fin.two rfl rfl (Weak.eq ?_)
    rw [finC, if_pos (.inl w1)]; rfl
  · have v1 : decide ((c : Int) < (LO : Int)) = false := decide_eq_false (by omega)
    by_cases w2 : 1114111 < c
    · have v2 : decide ((c : Int) > 1114111) = true := decide_eq_true (by omega)
      repeat' first
        | refine .seq ?_ | refine .rg ?_ | refine .rd ?_ | refine .block ?_ | refine .scope ?_ | refine .skip ?_ | refine .label ?_ | refine .exit ?_ | refine .ret ?_
        | refine .ct ?_ | refine .cf ?_ | refine .cy ?_ | refine .cn ?_ | (refine .cond rfl ?_ ?_ <;> intro hc)
        | refine A.nil_seq ?_ | refine .nl ?_ | refine .dd ?_ | refine .ys ?_ | refine .no ?_ | (refine A.guard rfl ?_ ?_ <;> intro hc)
        | refine .lb ?_ | refine .ln ?_ | refine .ls ?_ | refine .pv ?_ | refine .ix ?_ | refine .pt ?_ | refine .pf ?_ | refine .bx ?_ | refine .al ?_ | refine .st ?_ | refine .ad ?_ | refine .sb ?_ | refine .mf ?_ | refine .cl ?_ | refine .cw ?_ | refine .ck ?_ | fail
      refine Fin.two rfl rfl (Weak.eq ?_)
      rw [finC, if_pos (.inr (.inl w2))]; rfl
    · have v2 : decide ((c : Int) > 1114111) = false := decide_eq_false (by omega)
      by_cases w3 : 55296 ≤ c
      · have v3 : decide ((c : Int) ≥ 55296) = true := decide_eq_true (by omega)
        by_cases w4 : c < 57344
        · have v4 : decide ((c : Int) < 57344) = true := decide_eq_true (by omega)
          repeat' first
            | refine .seq ?_ | refine .rg ?_ | refine .rd ?_ | refine .block ?_ | refine .scope ?_ | refine .skip ?_ | refine .label ?_ | refine .exit ?_ | refine .ret ?_
            | refine .ct ?_ | refine .cf ?_ | refine .cy ?_ | refine .cn ?_ | (refine .cond rfl ?_ ?_ <;> intro hc)
            | refine A.nil_seq ?_ | refine .nl ?_ | refine .dd ?_ | refine .ys ?_ | refine .no ?_ | (refine A.guard rfl ?_ ?_ <;> intro hc)
            | refine .lb ?_ | refine .ln ?_ | refine .ls ?_ | refine .pv ?_ | refine .ix ?_ | refine .pt ?_ | refine .pf ?_ | refine .bx ?_ | refine .al ?_ | refine .st ?_ | refine .ad ?_ | refine .sb ?_ | refine .mf ?_ | refine .cl ?_ | refine .cw ?_ | refine .ck ?_ | fail
          refine Fin.two rfl rfl (Weak.eq ?_)
          rw [finC, if_pos (.inr (.inr ⟨w3, w4⟩))]; rfl
        · have v4 : decide ((c : Int) < 57344) = false := decide_eq_false (by omega)
          repeat' first
            | refine .seq ?_ | refine .rg ?_ | refine .rd ?_ | refine .block ?_ | refine .scope ?_ | refine .skip ?_ | refine .label ?_ | refine .exit ?_ | refine .ret ?_
            | refine .ct ?_ | refine .cf ?_ | refine .cy ?_ | refine .cn ?_ | (refine .cond rfl ?_ ?_ <;> intro hc)
            | refine A.nil_seq ?_ | refine .nl ?_ | refine .dd ?_ | refine .ys ?_ | refine .no ?_ | (refine A.guard rfl ?_ ?_ <;> intro hc)
            | refine .lb ?_ | refine .ln ?_ | refine .ls ?_ | refine .pv ?_ | refine .ix ?_ | refine .pt ?_ | refine .pf ?_ | refine .bx ?_ | refine .al ?_ | refine .st ?_ | refine .ad ?_ | refine .sb ?_ | refine .mf ?_ | refine .cl ?_ | refine .cw ?_ | refine .ck ?_ | fail
          refine Fin.two rfl rfl (Weak.eq ?_)
          rw [finC, if_neg (by omega)]
      · have v3 : decide ((c : Int) ≥ 55296) = false := decide_eq_false (by omega)
        repeat' first
          | refine .seq ?_ | refine .rg ?_ | refine .rd ?_ | refine .block ?_ | refine .scope ?_ | refine .skip ?_ | refine .label ?_ | refine .exit ?_ | refine .ret ?_
          | refine .ct ?_ | refine .cf ?_ | refine .cy ?_ | refine .cn ?_ | (refine .cond rfl ?_ ?_ <;> intro hc)
          | refine A.nil_seq ?_ | refine .nl ?_ | refine .dd ?_ | refine .ys ?_ | refine .no ?_ | (refine A.guard rfl ?_ ?_ <;> intro hc)
          | refine .lb ?_ | refine .ln ?_ | refine .ls ?_ | refine .pv ?_ | refine .ix ?_ | refine .pt ?_ | refine .pf ?_ | refine .bx ?_ | refine .al ?_ | refine .st ?_ | refine .ad ?_ | refine .sb ?_ | refine .mf ?_ | refine .cl ?_ | refine .cw ?_ | refine .ck ?_ | fail
        refine Fin.two rfl rfl (Weak.eq ?_)
        rw [finC, if_neg (by omega)]

theorem contAll_stop {s : Str} {i : Nat} : ∀ {n k j : Nat}, k ≤ j → j < k + n → contB (byteAt s i j) = false → contAll s i k n = false
  | 0, k, j, h1, h2, _ => by omega
  | n + 1, k, j, h1, h2, h => by
    rw [contAll]
    by_cases e : k = j
    · subst e; rw [h]; rfl
    · rw [contAll_stop (by omega) (by omega) h, Bool.and_false]
theorem contAll_all {s : Str} {i : Nat} : ∀ {n k : Nat}, (∀ j, k ≤ j → j < k + n → contB (byteAt s i j) = true) → contAll s i k n = true
  | 0, _, _ => rfl
  | n + 1, k, h => by
    rw [contAll, h k (Nat.le_refl _) (by omega), contAll_all fun j h1 h2 => h j (by omega) (by omega)]; rfl
attribute [local irreducible] Int.decLt Int.decLe Int.le Int.lt in
theorem codeRest (s : Str) (i N LO c0 : Nat) (hi : i < s.length) (hs : s.length ≤ 4611686018427387904) (hN : 2 ≤ N ∧ N ≤ 4) (hc0 : c0 < 32) :
    HCode Tryz.prog Tryz.f216.ntmps [] (tailOf 6 (bodyOf Tryz.f216)) (fin [4, 5] (fun e _ => ∃ v, e = .ret v ∧ Weak v (pairV (restC s i N LO c0))))
      [(6, .int .i64 (c0 : Int)), (7, .int .i64 (N : Int)), (8, .int .i64 (LO : Int)), (0, .str s), (1, .int .i64 (i : Int))] ⟨[], []⟩ := by
  unfold restC
  by_cases hn : N ≤ s.length - i
  · have d2 : decide ((N : Int) > (s.length : Int) - (i : Int)) = false := decide_eq_false (by omega)
    rw [if_pos hn]
    repeat' first
      | refine .seq ?_ | refine .rg ?_ | refine .rd ?_ | refine .block ?_ | refine .scope ?_ | refine .skip ?_ | refine .label ?_ | refine .exit ?_ | refine .ret ?_
      | refine .ct ?_ | refine .cf ?_ | refine .cy ?_ | refine .cn ?_ | (refine .cond rfl ?_ ?_ <;> intro hc)
      | refine A.nil_seq ?_ | refine .nl ?_ | refine .dd ?_ | refine .ys ?_ | refine .no ?_ | (refine A.guard rfl ?_ ?_ <;> intro hc)
      | refine .lb ?_ | refine .ln ?_ | refine .ls ?_ | refine .pv ?_ | refine .ix ?_ | refine .pt ?_ | refine .pf ?_ | refine .bx ?_ | refine .al ?_ | refine .st ?_ | refine .ad ?_ | refine .sb ?_ | refine .mf ?_ | refine .cl ?_ | refine .cw ?_ | refine .ck ?_ | fail
    change HCode _ _ _ _ _ _ _
    refine HCode.loop (fun n σs σ => ∃ j : Nat, n = N - 1 - j ∧ j ≤ N - 1 ∧ (∀ k, 1 ≤ k → k ≤ j → contB (byteAt s i k) = true) ∧ σ = ⟨[], []⟩ ∧
      σs = [(9, .int .i64 ((j + 1 : Nat) : Int)), (7, .int .i64 (N : Int)), (6, .int .i64 ((cAcc (byteAt s i) c0 j : Nat) : Int)), (0, .str s), (1, .int .i64 (i : Int)), (8, .int .i64 (LO : Int))])
      (s0 := [(9, .int .i64 ((0 + 1 : Nat) : Int)), (7, .int .i64 (N : Int)), (6, .int .i64 ((cAcc (byteAt s i) c0 0 : Nat) : Int)), (0, .str s), (1, .int .i64 (i : Int)), (8, .int .i64 (LO : Int))])
      ⟨rfl, rfl, rfl, rfl, rfl, rfl, trivial⟩ ⟨0, rfl, Nat.zero_le _, fun k h1 h2 => by omega, rfl, rfl⟩ ?_
    rintro n σs σ ⟨j, rfl, hj, hcont, rfl, rfl⟩
    have hacc := cAcc_lt (byteAt s i) hc0 (j := j) (by omega)
    by_cases h1 : j + 1 < N
    · have d3 : decide (((j + 1 : Nat) : Int) < (N : Int)) = true := decide_eq_true (by omega)
      have hk : i + (j + 1) < s.length := by omega
      have xk := get_str hk
      have hbk := UInt8.toNat_lt s[i + (j + 1)]
      have gk := byteAt_of (s := s) (i := i) (k := j + 1) hk
      by_cases k1 : s[i + (j + 1)].toNat < 128
      · have d4 : decide ((s[i + (j + 1)].toNat : Int) < 128) = true := decide_eq_true (by omega)
        have hq : contB (byteAt s i (j + 1)) = false := by rw [gk]; unfold contB; rw [decide_eq_false (by omega)]; rfl
        rw [contAll_stop (j := j + 1) (by omega) (by omega) hq, if_neg (by decide)]
        repeat' first
          | refine .seq ?_ | refine .rg ?_ | refine .rd ?_ | refine .block ?_ | refine .scope ?_ | refine .skip ?_ | refine .label ?_ | refine .exit ?_ | refine .ret ?_
          | refine .ct ?_ | refine .cf ?_ | refine .cy ?_ | refine .cn ?_ | (refine .cond rfl ?_ ?_ <;> intro hc)
          | refine A.nil_seq ?_ | refine .nl ?_ | refine .dd ?_ | refine .ys ?_ | refine .no ?_ | (refine A.guard rfl ?_ ?_ <;> intro hc)
          | refine .lb ?_ | refine .ln ?_ | refine .ls ?_ | refine .pv ?_ | refine .ix ?_ | refine .pt ?_ | refine .pf ?_ | refine .bx ?_ | refine .al ?_ | refine .st ?_ | refine .ad ?_ | refine .sb ?_ | refine .mf ?_ | refine .cl ?_ | refine .cw ?_ | refine .ck ?_
          | refine A.index_s (j := i + (j + 1)) rfl rfl rfl rfl rfl (by assumption) ?_ | refine A.conv rfl rfl rfl rfl (conv_u8 _) ?_ | fail
        exact Fin.two rfl rfl (Weak.refl _)
      · have d4 : decide ((s[i + (j + 1)].toNat : Int) < 128) = false := decide_eq_false (by omega)
        by_cases k2 : 191 < s[i + (j + 1)].toNat
        · have d5 : decide ((s[i + (j + 1)].toNat : Int) > 191) = true := decide_eq_true (by omega)
          have hq : contB (byteAt s i (j + 1)) = false := by rw [gk]; unfold contB; rw [decide_eq_true (by omega), decide_eq_false (by omega)]; rfl
          rw [contAll_stop (j := j + 1) (by omega) (by omega) hq, if_neg (by decide)]
          repeat' first
            | refine .seq ?_ | refine .rg ?_ | refine .rd ?_ | refine .block ?_ | refine .scope ?_ | refine .skip ?_ | refine .label ?_ | refine .exit ?_ | refine .ret ?_
            | refine .ct ?_ | refine .cf ?_ | refine .cy ?_ | refine .cn ?_ | (refine .cond rfl ?_ ?_ <;> intro hc)
            | refine A.nil_seq ?_ | refine .nl ?_ | refine .dd ?_ | refine .ys ?_ | refine .no ?_ | (refine A.guard rfl ?_ ?_ <;> intro hc)
            | refine .lb ?_ | refine .ln ?_ | refine .ls ?_ | refine .pv ?_ | refine .ix ?_ | refine .pt ?_ | refine .pf ?_ | refine .bx ?_ | refine .al ?_ | refine .st ?_ | refine .ad ?_ | refine .sb ?_ | refine .mf ?_ | refine .cl ?_ | refine .cw ?_ | refine .ck ?_
            | refine A.index_s (j := i + (j + 1)) rfl rfl rfl rfl rfl (by assumption) ?_ | refine A.conv rfl rfl rfl rfl (conv_u8 _) ?_ | fail
          exact Fin.two rfl rfl (Weak.refl _)
        · have d5 : decide ((s[i + (j + 1)].toNat : Int) > 191) = false := decide_eq_false (by omega)
          repeat' first
            | refine .seq ?_ | refine .rg ?_ | refine .rd ?_ | refine .block ?_ | refine .scope ?_ | refine .skip ?_ | refine .label ?_ | refine .exit ?_ | refine .ret ?_
            | refine .ct ?_ | refine .cf ?_ | refine .cy ?_ | refine .cn ?_ | (refine .cond rfl ?_ ?_ <;> intro hc)
            | refine A.nil_seq ?_ | refine .nl ?_ | refine .dd ?_ | refine .ys ?_ | refine .no ?_ | (refine A.guard rfl ?_ ?_ <;> intro hc)
            | refine .lb ?_ | refine .ln ?_ | refine .ls ?_ | refine .pv ?_ | refine .ix ?_ | refine .pt ?_ | refine .pf ?_ | refine .bx ?_ | refine .al ?_ | refine .st ?_ | refine .ad ?_ | refine .sb ?_ | refine .mf ?_ | refine .cl ?_ | refine .cw ?_ | refine .ck ?_
            | refine A.index_s (j := i + (j + 1)) rfl rfl rfl rfl rfl (by assumption) ?_ | refine A.conv rfl rfl rfl rfl (conv_u8 _) ?_ | refine A.shl6 rfl rfl rfl (by omega) ?_ | refine A.band (n := 63) rfl rfl rfl rfl (by omega) (by decide) (and63 _) ?_ | refine A.bor rfl rfl rfl rfl (by omega) (by omega) (or64 _ _ (by omega)) ?_ | fail
          refine ⟨N - 1 - (j + 1), by omega, [(9, .int .i64 ((j + 1 + 1 : Nat) : Int)), (7, .int .i64 (N : Int)), (6, .int .i64 ((cAcc (byteAt s i) c0 (j + 1) : Nat) : Int)), (0, .str s), (1, .int .i64 (i : Int)), (8, .int .i64 (LO : Int))],
            ⟨rfl, rfl, by rw [cAcc, gk]; rfl, rfl, rfl, rfl, trivial⟩, by simp [belowS, AV.low], rfl, j + 1, rfl, by omega, fun k q1 q2 => ?_, rfl, rfl⟩
          by_cases e : k = j + 1
          · subst e; rw [gk]; unfold contB; rw [decide_eq_true (by omega), decide_eq_true (by omega)]; rfl
          · exact hcont k q1 (by omega)
    · have d3 : decide (((j + 1 : Nat) : Int) < (N : Int)) = false := decide_eq_false (by omega)
      obtain rfl : j = N - 1 := by omega
      rw [contAll_all fun k q1 q2 => hcont k q1 (by omega), if_pos rfl]
      have hend := codeEnd N LO (cAcc (byteAt s i) c0 (N - 1))
      repeat' first
        | (refine HCode.weaken hend ?_; exact ⟨rfl, rfl, rfl, trivial⟩)
        | refine .seq ?_ | refine .rg ?_ | refine .rd ?_ | refine .block ?_ | refine .scope ?_ | refine .skip ?_ | refine .label ?_ | refine .exit ?_ | refine .ret ?_
        | refine .ct ?_ | refine .cf ?_ | refine .cy ?_ | refine .cn ?_ | (refine .cond rfl ?_ ?_ <;> intro hc)
        | refine A.nil_seq ?_ | refine .nl ?_ | refine .dd ?_ | refine .ys ?_ | refine .no ?_ | (refine A.guard rfl ?_ ?_ <;> intro hc)
        | refine .lb ?_ | refine .ln ?_ | refine .ls ?_ | refine .pv ?_ | refine .ix ?_ | refine .pt ?_ | refine .pf ?_ | refine .bx ?_ | refine .al ?_ | refine .st ?_ | refine .ad ?_ | refine .sb ?_ | refine .mf ?_ | refine .cl ?_ | refine .cw ?_ | refine .ck ?_ | fail
  · have d2 : decide ((N : Int) > (s.length : Int) - (i : Int)) = true := decide_eq_true (by omega)
    rw [if_neg hn]
    repeat' first
      | refine .seq ?_ | refine .rg ?_ | refine .rd ?_ | refine .block ?_ | refine .scope ?_ | refine .skip ?_ | refine .label ?_ | refine .exit ?_ | refine .ret ?_
      | refine .ct ?_ | refine .cf ?_ | refine .cy ?_ | refine .cn ?_ | (refine .cond rfl ?_ ?_ <;> intro hc)
      | refine A.nil_seq ?_ | refine .nl ?_ | refine .dd ?_ | refine .ys ?_ | refine .no ?_ | (refine A.guard rfl ?_ ?_ <;> intro hc)
      | refine .lb ?_ | refine .ln ?_ | refine .ls ?_ | refine .pv ?_ | refine .ix ?_ | refine .pt ?_ | refine .pf ?_ | refine .bx ?_ | refine .al ?_ | refine .st ?_ | refine .ad ?_ | refine .sb ?_ | refine .mf ?_ | refine .cl ?_ | refine .cw ?_ | refine .ck ?_ | fail
    exact Fin.two rfl rfl (Weak.refl _)
end Go.Proofs.YtpidjkihngiaoaaGreatDoor
namespace Go.Proofs.YtpidjkihngiaoaaGreatDoor
open Go Go.Av
set_option maxRecDepth 100000
set_option maxHeartbeats 16000000
set_option linter.unusedVariables false
set_option linter.unusedSimpArgs false
attribute [local irreducible] HCode AOps PFn AFn Av.Step TStep

theorem code_is {s : Str} {i : Nat} (hi : i < s.length) : codeL (s.drop i) = codeP (s.length - i) s[i].toNat (byteAt s i 1) (byteAt s i 2) (byteAt s i 3) := by
  have g0 : byteAt s i 0 = s[i].toNat := byteAt_of (k := 0) hi
  rw [codeL_eq, ← g0]; rfl
theorem code_2 {s : Str} {i : Nat} (hi : i < s.length) (h : 194 ≤ s[i].toNat ∧ s[i].toNat < 224) : codeL (s.drop i) = restC s i 2 128 (s[i].toNat % 32) := by
  rw [code_is hi, codeP, if_neg (by omega), if_pos h]
  unfold restC
  simp only [contAll, contB, cAcc, Nat.reduceSub, Bool.and_true, Bool.and_eq_true, decide_eq_true_eq]
  by_cases a : 2 ≤ s.length - i
  · rw [if_pos a]
    by_cases b : 128 ≤ byteAt s i 1 ∧ byteAt s i 1 ≤ 191
    · rw [if_pos ⟨a, b⟩, if_pos b]
    · rw [if_neg (fun h => b h.2), if_neg b]
  · rw [if_neg (fun h => a h.1), if_neg a]
theorem code_3 {s : Str} {i : Nat} (hi : i < s.length) (h : 224 ≤ s[i].toNat ∧ s[i].toNat < 240) : codeL (s.drop i) = restC s i 3 2048 (s[i].toNat % 16) := by
  rw [code_is hi, codeP, if_neg (by omega), if_neg (by omega), if_pos h]
  unfold restC
  simp only [contAll, contB, cAcc, Nat.reduceSub, Bool.and_true, Bool.and_eq_true, decide_eq_true_eq]
  by_cases a : 3 ≤ s.length - i
  · rw [if_pos a]
    by_cases b : (128 ≤ byteAt s i 1 ∧ byteAt s i 1 ≤ 191) ∧ (128 ≤ byteAt s i 2 ∧ byteAt s i 2 ≤ 191)
    · rw [if_pos ⟨a, b⟩, if_pos b]
    · rw [if_neg (fun h => b h.2), if_neg b]
  · rw [if_neg (fun h => a h.1), if_neg a]
theorem code_4 {s : Str} {i : Nat} (hi : i < s.length) (h : 240 ≤ s[i].toNat ∧ s[i].toNat < 245) : codeL (s.drop i) = restC s i 4 65536 (s[i].toNat % 8) := by
  rw [code_is hi, codeP, if_neg (by omega), if_neg (by omega), if_neg (by omega), if_pos h]
  unfold restC
  simp only [contAll, contB, cAcc, Nat.reduceSub, Bool.and_true, Bool.and_eq_true, decide_eq_true_eq]
  by_cases a : 4 ≤ s.length - i
  · rw [if_pos a]
    by_cases b : (128 ≤ byteAt s i 1 ∧ byteAt s i 1 ≤ 191) ∧ (128 ≤ byteAt s i 2 ∧ byteAt s i 2 ≤ 191) ∧ (128 ≤ byteAt s i 3 ∧ byteAt s i 3 ≤ 191)
    · rw [if_pos ⟨a, b⟩, if_pos b]
    · rw [if_neg (fun h => b h.2), if_neg b]
  · rw [if_neg (fun h => a h.1), if_neg a]
theorem code_1 {s : Str} {i : Nat} (hi : i < s.length) (h : s[i].toNat < 128) : codeL (s.drop i) = (s[i].toNat, 1) := by
  rw [code_is hi, codeP, if_pos h]
theorem code_0 {s : Str} {i : Nat} (hi : i < s.length) (h0 : ¬ s[i].toNat < 128) (h2 : ¬ (194 ≤ s[i].toNat ∧ s[i].toNat < 224)) (h3 : ¬ (224 ≤ s[i].toNat ∧ s[i].toNat < 240)) (h4 : ¬ (240 ≤ s[i].toNat ∧ s[i].toNat < 245)) : codeL (s.drop i) = (0, 0) := by
  rw [code_is hi, codeP, if_neg h0, if_neg h2, if_neg h3, if_neg h4]

attribute [local irreducible] Int.decLt Int.decLe Int.le Int.lt in
theorem rCode (s : Str) (i : Nat) (hi : i < s.length) (hs : s.length ≤ 4611686018427387904) :
    PFn Tryz.prog 216 [.str s, .int .i64 (i : Int)] (pairV (codeL (s.drop i))) := by
  have x0 := get_str hi
  have hb0 := UInt8.toNat_lt s[i]
  have hbN : s[i].toNat < 9223372036854775808 := by omega
  have e1 : decide ((i : Int) < 0) = false := decide_eq_false (by omega)
  have e2 : decide ((i : Int) ≥ (s.length : Int)) = false := decide_eq_false (by omega)
  by_cases c1 : s[i].toNat < 128
  · have d1 : decide ((s[i].toNat : Int) < 128) = true := decide_eq_true (by omega)
    rw [code_1 hi c1]
    refine AFn.plain rfl rfl (AFn.enter [4, 5] Tryz.func216 rfl rfl rfl rfl rfl (by decide) ?_)
    repeat' first
      | refine .seq ?_ | refine .rg ?_ | refine .rd ?_ | refine .block ?_ | refine .scope ?_ | refine .skip ?_ | refine .label ?_ | refine .exit ?_ | refine .ret ?_
      | refine .ct ?_ | refine .cf ?_ | refine .cy ?_ | refine .cn ?_ | (refine .cond rfl ?_ ?_ <;> intro hc)
      | refine A.nil_seq ?_ | refine .nl ?_ | refine .dd ?_ | refine .ys ?_ | refine .no ?_ | (refine A.guard rfl ?_ ?_ <;> intro hc)
      | refine .lb ?_ | refine .ln ?_ | refine .ls ?_ | refine .pv ?_ | refine .ix ?_ | refine .pt ?_ | refine .pf ?_ | refine .bx ?_ | refine .al ?_ | refine .st ?_ | refine .ad ?_ | refine .sb ?_ | refine .mf ?_ | refine .cl ?_ | refine .cw ?_ | refine .ck ?_
      | refine A.index_s rfl rfl rfl rfl rfl (by assumption) ?_ | refine A.conv rfl rfl rfl rfl (conv_u8 _) ?_ | fail
    exact Fin.two rfl rfl (Weak.refl _)
  · have d1 : decide ((s[i].toNat : Int) < 128) = false := decide_eq_false (by omega)
    by_cases c2 : 194 ≤ s[i].toNat ∧ s[i].toNat < 224
    · have f1 : decide ((s[i].toNat : Int) ≥ 194) = true := decide_eq_true (by omega)
      have f2 : decide ((s[i].toNat : Int) < 224) = true := decide_eq_true (by omega)
      have hrest := codeRest s i 2 128 (s[i].toNat % 32) hi hs ⟨by decide, by decide⟩ (by omega)
      rw [code_2 hi c2]
      refine AFn.plain rfl rfl (AFn.enter [4, 5] Tryz.func216 rfl rfl rfl rfl rfl (by decide) ?_)
      repeat' first
        | (refine HCode.weaken hrest ?_; exact ⟨rfl, rfl, rfl, rfl, rfl, trivial⟩)
        | refine .seq ?_ | refine .rg ?_ | refine .rd ?_ | refine .block ?_ | refine .scope ?_ | refine .skip ?_ | refine .label ?_ | refine .exit ?_ | refine .ret ?_
        | refine .ct ?_ | refine .cf ?_ | refine .cy ?_ | refine .cn ?_ | (refine .cond rfl ?_ ?_ <;> intro hc)
        | refine A.nil_seq ?_ | refine .nl ?_ | refine .dd ?_ | refine .ys ?_ | refine .no ?_ | (refine A.guard rfl ?_ ?_ <;> intro hc)
        | refine .lb ?_ | refine .ln ?_ | refine .ls ?_ | refine .pv ?_ | refine .ix ?_ | refine .pt ?_ | refine .pf ?_ | refine .bx ?_ | refine .al ?_ | refine .st ?_ | refine .ad ?_ | refine .sb ?_ | refine .mf ?_ | refine .cl ?_ | refine .cw ?_ | refine .ck ?_
        | refine A.index_s rfl rfl rfl rfl rfl (by assumption) ?_ | refine A.conv rfl rfl rfl rfl (conv_u8 _) ?_ | refine A.band (n := 31) rfl rfl rfl rfl hbN (by decide) (and31 _) ?_ | fail
    · by_cases c3 : 224 ≤ s[i].toNat ∧ s[i].toNat < 240
      · have f1 : decide ((s[i].toNat : Int) ≥ 194) = true := decide_eq_true (by omega)
        have f2 : decide ((s[i].toNat : Int) < 224) = false := decide_eq_false (by omega)
        have f3 : decide ((s[i].toNat : Int) ≥ 224) = true := decide_eq_true (by omega)
        have f4 : decide ((s[i].toNat : Int) < 240) = true := decide_eq_true (by omega)
        have hrest := codeRest s i 3 2048 (s[i].toNat % 16) hi hs ⟨by decide, by decide⟩ (by omega)
        rw [code_3 hi c3]
        refine AFn.plain rfl rfl (AFn.enter [4, 5] Tryz.func216 rfl rfl rfl rfl rfl (by decide) ?_)
        repeat' first
          | (refine HCode.weaken hrest ?_; exact ⟨rfl, rfl, rfl, rfl, rfl, trivial⟩)
          | refine .seq ?_ | refine .rg ?_ | refine .rd ?_ | refine .block ?_ | refine .scope ?_ | refine .skip ?_ | refine .label ?_ | refine .exit ?_ | refine .ret ?_
          | refine .ct ?_ | refine .cf ?_ | refine .cy ?_ | refine .cn ?_ | (refine .cond rfl ?_ ?_ <;> intro hc)
          | refine A.nil_seq ?_ | refine .nl ?_ | refine .dd ?_ | refine .ys ?_ | refine .no ?_ | (refine A.guard rfl ?_ ?_ <;> intro hc)
          | refine .lb ?_ | refine .ln ?_ | refine .ls ?_ | refine .pv ?_ | refine .ix ?_ | refine .pt ?_ | refine .pf ?_ | refine .bx ?_ | refine .al ?_ | refine .st ?_ | refine .ad ?_ | refine .sb ?_ | refine .mf ?_ | refine .cl ?_ | refine .cw ?_ | refine .ck ?_
          | refine A.index_s rfl rfl rfl rfl rfl (by assumption) ?_ | refine A.conv rfl rfl rfl rfl (conv_u8 _) ?_ | refine A.band (n := 15) rfl rfl rfl rfl hbN (by decide) (and15 _) ?_ | fail
      · by_cases c4 : 240 ≤ s[i].toNat ∧ s[i].toNat < 245
        · have f1 : decide ((s[i].toNat : Int) ≥ 194) = true := decide_eq_true (by omega)
          have f2 : decide ((s[i].toNat : Int) < 224) = false := decide_eq_false (by omega)
          have f3 : decide ((s[i].toNat : Int) ≥ 224) = true := decide_eq_true (by omega)
          have f4 : decide ((s[i].toNat : Int) < 240) = false := decide_eq_false (by omega)
          have f5 : decide ((s[i].toNat : Int) ≥ 240) = true := decide_eq_true (by omega)
          have f6 : decide ((s[i].toNat : Int) < 245) = true := decide_eq_true (by omega)
          have hrest := codeRest s i 4 65536 (s[i].toNat % 8) hi hs ⟨by decide, by decide⟩ (by omega)
          rw [code_4 hi c4]
          refine AFn.plain rfl rfl (AFn.enter [4, 5] Tryz.func216 rfl rfl rfl rfl rfl (by decide) ?_)
          repeat' first
            | (refine HCode.weaken hrest ?_; exact ⟨rfl, rfl, rfl, rfl, rfl, trivial⟩)
            | refine .seq ?_ | refine .rg ?_ | refine .rd ?_ | refine .block ?_ | refine .scope ?_ | refine .skip ?_ | refine .label ?_ | refine .exit ?_ | refine .ret ?_
            | refine .ct ?_ | refine .cf ?_ | refine .cy ?_ | refine .cn ?_ | (refine .cond rfl ?_ ?_ <;> intro hc)
            | refine A.nil_seq ?_ | refine .nl ?_ | refine .dd ?_ | refine .ys ?_ | refine .no ?_ | (refine A.guard rfl ?_ ?_ <;> intro hc)
            | refine .lb ?_ | refine .ln ?_ | refine .ls ?_ | refine .pv ?_ | refine .ix ?_ | refine .pt ?_ | refine .pf ?_ | refine .bx ?_ | refine .al ?_ | refine .st ?_ | refine .ad ?_ | refine .sb ?_ | refine .mf ?_ | refine .cl ?_ | refine .cw ?_ | refine .ck ?_
            | refine A.index_s rfl rfl rfl rfl rfl (by assumption) ?_ | refine A.conv rfl rfl rfl rfl (conv_u8 _) ?_ | refine A.band (n := 7) rfl rfl rfl rfl hbN (by decide) (Go.Av.and7 _) ?_ | fail
        · rw [code_0 hi c1 c2 c3 c4]
          refine AFn.plain rfl rfl (AFn.enter [4, 5] Tryz.func216 rfl rfl rfl rfl rfl (by decide) ?_)
          by_cases c5 : s[i].toNat < 194
          · have f1 : decide ((s[i].toNat : Int) ≥ 194) = false := decide_eq_false (by omega)
            have f3 : decide ((s[i].toNat : Int) ≥ 224) = false := decide_eq_false (by omega)
            have f5 : decide ((s[i].toNat : Int) ≥ 240) = false := decide_eq_false (by omega)
            repeat' first
              | refine .seq ?_ | refine .rg ?_ | refine .rd ?_ | refine .block ?_ | refine .scope ?_ | refine .skip ?_ | refine .label ?_ | refine .exit ?_ | refine .ret ?_
              | refine .ct ?_ | refine .cf ?_ | refine .cy ?_ | refine .cn ?_ | (refine .cond rfl ?_ ?_ <;> intro hc)
              | refine A.nil_seq ?_ | refine .nl ?_ | refine .dd ?_ | refine .ys ?_ | refine .no ?_ | (refine A.guard rfl ?_ ?_ <;> intro hc)
              | refine .lb ?_ | refine .ln ?_ | refine .ls ?_ | refine .pv ?_ | refine .ix ?_ | refine .pt ?_ | refine .pf ?_ | refine .bx ?_ | refine .al ?_ | refine .st ?_ | refine .ad ?_ | refine .sb ?_ | refine .mf ?_ | refine .cl ?_ | refine .cw ?_ | refine .ck ?_
              | refine A.index_s rfl rfl rfl rfl rfl (by assumption) ?_ | refine A.conv rfl rfl rfl rfl (conv_u8 _) ?_ | fail
            exact Fin.two rfl rfl (Weak.refl _)
          · have f1 : decide ((s[i].toNat : Int) ≥ 194) = true := decide_eq_true (by omega)
            have f2 : decide ((s[i].toNat : Int) < 224) = false := decide_eq_false (by omega)
            have f3 : decide ((s[i].toNat : Int) ≥ 224) = true := decide_eq_true (by omega)
            have f4 : decide ((s[i].toNat : Int) < 240) = false := decide_eq_false (by omega)
            have f5 : decide ((s[i].toNat : Int) ≥ 240) = true := decide_eq_true (by omega)
            have f6 : decide ((s[i].toNat : Int) < 245) = false := decide_eq_false (by omega)
            repeat' first
              | refine .seq ?_ | refine .rg ?_ | refine .rd ?_ | refine .block ?_ | refine .scope ?_ | refine .skip ?_ | refine .label ?_ | refine .exit ?_ | refine .ret ?_
              | refine .ct ?_ | refine .cf ?_ | refine .cy ?_ | refine .cn ?_ | (refine .cond rfl ?_ ?_ <;> intro hc)
              | refine A.nil_seq ?_ | refine .nl ?_ | refine .dd ?_ | refine .ys ?_ | refine .no ?_ | (refine A.guard rfl ?_ ?_ <;> intro hc)
              | refine .lb ?_ | refine .ln ?_ | refine .ls ?_ | refine .pv ?_ | refine .ix ?_ | refine .pt ?_ | refine .pf ?_ | refine .bx ?_ | refine .al ?_ | refine .st ?_ | refine .ad ?_ | refine .sb ?_ | refine .mf ?_ | refine .cl ?_ | refine .cw ?_ | refine .ck ?_
              | refine A.index_s rfl rfl rfl rfl rfl (by assumption) ?_ | refine A.conv rfl rfl rfl rfl (conv_u8 _) ?_ | fail
            exact Fin.two rfl rfl (Weak.refl _)
end Go.Proofs.YtpidjkihngiaoaaGreatDoor
namespace Go.Proofs.YtpidjkihngiaoaaGreatDoor
open Go Go.Av
set_option maxRecDepth 100000
set_option maxHeartbeats 16000000
set_option linter.unusedVariables false
set_option linter.unusedSimpArgs false
attribute [local irreducible] HCode AOps PFn AFn Av.Step TStep

theorem rStart (c : UInt8) : PFn Tryz.prog 148 [.int .u8 (c.toNat : Int)] (.bool (letC c)) := by
  refine AFn.plain rfl rfl (AFn.enter [2] Tryz.func148 rfl rfl rfl rfl rfl (by decide) ?_)
  repeat' first
    | refine .seq ?_ | refine .rg ?_ | refine .rd ?_ | refine .block ?_ | refine .scope ?_ | refine .skip ?_ | refine .label ?_ | refine .exit ?_ | refine .ret ?_
    | refine .ct ?_ | refine .cf ?_ | refine .cy ?_ | refine .cn ?_ | (refine .cond rfl ?_ ?_ <;> intro hc)
    | refine A.nil_seq ?_ | refine .nl ?_ | refine .dd ?_ | refine .ys ?_ | refine .no ?_ | (refine A.guard rfl ?_ ?_ <;> intro hc)
    | refine .lb ?_ | refine .ln ?_ | refine .ls ?_ | refine .pv ?_ | refine .ix ?_ | refine .pt ?_ | refine .pf ?_ | refine .bx ?_ | refine .al ?_ | refine .st ?_ | refine .ad ?_ | refine .sb ?_ | refine .mf ?_ | refine .cl ?_ | refine .cw ?_ | refine .ck ?_ | fail
  all_goals
    refine Fin.ret1 rfl (Weak.eq (congrArg AV.bool ?_))
    unfold letC; rw [Bool.eq_iff_iff]; simp at *; omega
theorem rDigit (c : UInt8) : PFn Tryz.prog 149 [.int .u8 (c.toNat : Int)] (.bool (digC c)) := by
  refine AFn.plain rfl rfl (AFn.enter [2] Tryz.func149 rfl rfl rfl rfl rfl (by decide) ?_)
  repeat' first
    | refine .seq ?_ | refine .rg ?_ | refine .rd ?_ | refine .block ?_ | refine .scope ?_ | refine .skip ?_ | refine .label ?_ | refine .exit ?_ | refine .ret ?_
    | refine .ct ?_ | refine .cf ?_ | refine .cy ?_ | refine .cn ?_ | (refine .cond rfl ?_ ?_ <;> intro hc)
    | refine A.nil_seq ?_ | refine .nl ?_ | refine .dd ?_ | refine .ys ?_ | refine .no ?_ | (refine A.guard rfl ?_ ?_ <;> intro hc)
    | refine .lb ?_ | refine .ln ?_ | refine .ls ?_ | refine .pv ?_ | refine .ix ?_ | refine .pt ?_ | refine .pf ?_ | refine .bx ?_ | refine .al ?_ | refine .st ?_ | refine .ad ?_ | refine .sb ?_ | refine .mf ?_ | refine .cl ?_ | refine .cw ?_ | refine .ck ?_ | fail
  all_goals
    refine Fin.ret1 rfl (Weak.eq (congrArg AV.bool ?_))
    unfold digC; rw [Bool.eq_iff_iff]; simp at *; omega
theorem rName (s : Str) (hs : s.length ≤ 9223372036854775806) : PFn Tryz.prog 94 [.str s] (.bool (nameB s)) := by
  refine AFn.plain rfl rfl (AFn.enter [2] Tryz.func94 rfl rfl rfl rfl rfl (by decide) ?_)
  by_cases h0 : s = []
  · subst h0
    repeat' first
      | refine .seq ?_ | refine .rg ?_ | refine .rd ?_ | refine .block ?_ | refine .scope ?_ | refine .skip ?_ | refine .label ?_ | refine .exit ?_ | refine .ret ?_
      | refine .ct ?_ | refine .cf ?_ | refine .cy ?_ | refine .cn ?_ | (refine .cond rfl ?_ ?_ <;> intro hc)
      | refine A.nil_seq ?_ | refine .nl ?_ | refine .dd ?_ | refine .ys ?_ | refine .no ?_ | (refine A.guard rfl ?_ ?_ <;> intro hc)
      | refine .lb ?_ | refine .ln ?_ | refine .ls ?_ | refine .pv ?_ | refine .ix ?_ | refine .pt ?_ | refine .pf ?_ | refine .bx ?_ | refine .al ?_ | refine .st ?_ | refine .ad ?_ | refine .sb ?_ | refine .mf ?_ | refine .cl ?_ | refine .cw ?_ | refine .ck ?_ | fail
    exact Fin.ret1 rfl (Weak.refl _)
  · have e0 : (s == []) = false := by simpa using h0
    have hl : 0 < s.length := List.length_pos_iff.2 h0
    have x0 : s[0]? = some s[0] := get_str hl
    have hst := rStart s[0]
    have hn : nameB s = (letC s[0] && nmC false (s.drop 1)) := by
      cases s with
      | nil => exact absurd rfl h0
      | cons c r => simp [nameB, nmC]
    repeat' first
      | refine .seq ?_ | refine .rg ?_ | refine .rd ?_ | refine .block ?_ | refine .scope ?_ | refine .skip ?_ | refine .label ?_ | refine .exit ?_ | refine .ret ?_
      | refine .ct ?_ | refine .cf ?_ | refine .cy ?_ | refine .cn ?_ | (refine .cond rfl ?_ ?_ <;> intro hc)
      | refine A.nil_seq ?_ | refine .nl ?_ | refine .dd ?_ | refine .ys ?_ | refine .no ?_ | (refine A.guard rfl ?_ ?_ <;> intro hc)
      | refine .lb ?_ | refine .ln ?_ | refine .ls ?_ | refine .pv ?_ | refine .ix ?_ | refine .pt ?_ | refine .pf ?_ | refine .bx ?_ | refine .al ?_ | refine .st ?_ | refine .ad ?_ | refine .sb ?_ | refine .mf ?_ | refine .cl ?_ | refine .cw ?_ | refine .ck ?_
      | refine .is ?_ | fail
    · refine Fin.ret1 rfl (Weak.eq (congrArg AV.bool ?_))
      rw [hn]; simp_all
    · refine HCode.forK (s.length - 1) (fun k => [(3, .int .i64 ((k + 1 : Nat) : Int)), (0, .str s)]) (fun _ => ⟨[], []⟩) (fun k => nameB s = nmC false (s.drop (k + 1))) ⟨rfl, rfl, trivial⟩ rfl (by rw [hn]; simp_all) fun k hk hp => ?_
      by_cases h1 : k + 1 < s.length
      · have d1 : decide (((k + 1 : Nat) : Int) < (s.length : Int)) = true := decide_eq_true (by omega)
        have x1 := get_str h1
        have h2 := rStart s[k + 1]
        have h3 := rDigit s[k + 1]
        have hd := nmC_drop (z := false) h1
        repeat' first
          | refine .seq ?_ | refine .rg ?_ | refine .rd ?_ | refine .block ?_ | refine .scope ?_ | refine .skip ?_ | refine .label ?_ | refine .exit ?_ | refine .ret ?_
          | refine .ct ?_ | refine .cf ?_ | refine .cy ?_ | refine .cn ?_ | (refine .cond rfl ?_ ?_ <;> intro hc)
          | refine A.nil_seq ?_ | refine .nl ?_ | refine .dd ?_ | refine .ys ?_ | refine .no ?_ | (refine A.guard rfl ?_ ?_ <;> intro hc)
          | refine .lb ?_ | refine .ln ?_ | refine .ls ?_ | refine .pv ?_ | refine .ix ?_ | refine .pt ?_ | refine .pf ?_ | refine .bx ?_ | refine .al ?_ | refine .st ?_ | refine .ad ?_ | refine .sb ?_ | refine .mf ?_ | refine .cl ?_ | refine .cw ?_ | refine .ck ?_
          | refine .is ?_ | fail
        all_goals first
          | (refine Fin.ret1 rfl (Weak.eq (congrArg AV.bool ?_)); rw [hp, hd]; simp_all; done)
          | (exact ⟨by omega, ⟨rfl, rfl, trivial⟩, by simp [belowS, AV.low], rfl, rfl, by rw [hp, hd]; simp_all⟩)
      · have d1 : decide (((k + 1 : Nat) : Int) < (s.length : Int)) = false := decide_eq_false (by omega)
        repeat' first
          | refine .seq ?_ | refine .rg ?_ | refine .rd ?_ | refine .block ?_ | refine .scope ?_ | refine .skip ?_ | refine .label ?_ | refine .exit ?_ | refine .ret ?_
          | refine .ct ?_ | refine .cf ?_ | refine .cy ?_ | refine .cn ?_ | (refine .cond rfl ?_ ?_ <;> intro hc)
          | refine A.nil_seq ?_ | refine .nl ?_ | refine .dd ?_ | refine .ys ?_ | refine .no ?_ | (refine A.guard rfl ?_ ?_ <;> intro hc)
          | refine .lb ?_ | refine .ln ?_ | refine .ls ?_ | refine .pv ?_ | refine .ix ?_ | refine .pt ?_ | refine .pf ?_ | refine .bx ?_ | refine .al ?_ | refine .st ?_ | refine .ad ?_ | refine .sb ?_ | refine .mf ?_ | refine .cl ?_ | refine .cw ?_ | refine .ck ?_ | fail
        refine Fin.ret1 rfl (Weak.eq (congrArg AV.bool ?_))
        rw [hp, List.drop_eq_nil_of_le (by omega), nmC]
theorem rHas (l : List Str) (x : Str) (hl : l.length ≤ 9223372036854775807) : PFn Tryz.prog 102 [.slice (l.map AV.str) .no, .str x] (.bool (decide (x ∈ l))) := by
  refine AFn.plain rfl (by simp [AV.closed, AV.closedL, str_closedL]) (AFn.enter [4] Tryz.func102 rfl rfl rfl rfl rfl (by decide) ?_)
  repeat' first
    | refine .seq ?_ | refine .rg ?_ | refine .rd ?_ | refine .block ?_ | refine .scope ?_ | refine .skip ?_ | refine .label ?_ | refine .exit ?_ | refine .ret ?_
    | refine .ct ?_ | refine .cf ?_ | refine .cy ?_ | refine .cn ?_ | (refine .cond rfl ?_ ?_ <;> intro hc)
    | refine A.nil_seq ?_ | refine .nl ?_ | refine .dd ?_ | refine .ys ?_ | refine .no ?_ | (refine A.guard rfl ?_ ?_ <;> intro hc)
    | refine .lb ?_ | refine .ln ?_ | refine .ls ?_ | refine .pv ?_ | refine .ix ?_ | refine .pt ?_ | refine .pf ?_ | refine .bx ?_ | refine .al ?_ | refine .st ?_ | refine .ad ?_ | refine .sb ?_ | refine .mf ?_ | refine .cl ?_ | refine .cw ?_ | refine .ck ?_ | fail
  refine HCode.forK l.length (fun k => [(5, .int .i64 k), (0, .slice (l.map AV.str) .no), (1, .str x)]) (fun _ => ⟨[], []⟩) (fun k => decide (x ∈ l) = decide (x ∈ l.drop k)) ⟨rfl, rfl, rfl, trivial⟩ rfl rfl fun k hk hp => ?_
  by_cases h1 : k < l.length
  · have d1 : decide ((k : Int) < (l.length : Int)) = true := by simp [h1]
    have x1 := map_get' (f := AV.str) h1
    have hd : (x ∈ l.drop k) ↔ (x = l[k] ∨ x ∈ l.drop (k + 1)) := by rw [List.drop_eq_getElem_cons h1, List.mem_cons]
    repeat' first
      | refine .seq ?_ | refine .rg ?_ | refine .rd ?_ | refine .block ?_ | refine .scope ?_ | refine .skip ?_ | refine .label ?_ | refine .exit ?_ | refine .ret ?_
      | refine .ct ?_ | refine .cf ?_ | refine .cy ?_ | refine .cn ?_ | (refine .cond rfl ?_ ?_ <;> intro hc)
      | refine A.nil_seq ?_ | refine .nl ?_ | refine .dd ?_ | refine .ys ?_ | refine .no ?_ | (refine A.guard rfl ?_ ?_ <;> intro hc)
      | refine .lb ?_ | refine .ln ?_ | refine .ls ?_ | refine .pv ?_ | refine .ix ?_ | refine .pt ?_ | refine .pf ?_ | refine .bx ?_ | refine .al ?_ | refine .st ?_ | refine .ad ?_ | refine .sb ?_ | refine .mf ?_ | refine .cl ?_ | refine .cw ?_ | refine .ck ?_ | fail
    · refine Fin.ret1 rfl (Weak.eq (congrArg AV.bool ?_))
      rw [hp, Eq.comm, decide_eq_true_eq, hd]
      exact .inl (by simpa using Eq.symm (by simpa using hc))
    · exact ⟨h1, ⟨rfl, rfl, rfl, trivial⟩, by simp [belowS, AV.low], rfl, rfl, by
        rw [hp, decide_eq_decide, hd]
        have : ¬ x = l[k] := fun e => by rw [← e] at hc; simp at hc
        simp [this]⟩
  · have d1 : decide ((k : Int) < (l.length : Int)) = false := by simp; omega
    repeat' first
      | refine .seq ?_ | refine .rg ?_ | refine .rd ?_ | refine .block ?_ | refine .scope ?_ | refine .skip ?_ | refine .label ?_ | refine .exit ?_ | refine .ret ?_
      | refine .ct ?_ | refine .cf ?_ | refine .cy ?_ | refine .cn ?_ | (refine .cond rfl ?_ ?_ <;> intro hc)
      | refine A.nil_seq ?_ | refine .nl ?_ | refine .dd ?_ | refine .ys ?_ | refine .no ?_ | (refine A.guard rfl ?_ ?_ <;> intro hc)
      | refine .lb ?_ | refine .ln ?_ | refine .ls ?_ | refine .pv ?_ | refine .ix ?_ | refine .pt ?_ | refine .pf ?_ | refine .bx ?_ | refine .al ?_ | refine .st ?_ | refine .ad ?_ | refine .sb ?_ | refine .mf ?_ | refine .cl ?_ | refine .cw ?_ | refine .ck ?_ | fail
    refine Fin.ret1 rfl (Weak.eq (congrArg AV.bool ?_))
    rw [hp, List.drop_eq_nil_of_le (by omega)]; simp
theorem shl_two {l : Int} (h0 : 0 ≤ l) (h4 : l ≤ 4) : IntKind.i64.wrap (2 * 2 ^ min (IntKind.u64.wrap l).toNat IntKind.i64.bits) = 2 ^ (l.toNat + 1) := by
  have e : l = 0 ∨ l = 1 ∨ l = 2 ∨ l = 3 ∨ l = 4 := by omega
  rcases e with rfl | rfl | rfl | rfl | rfl <;> rfl
theorem wrap_u64 {l : Int} (h0 : 0 ≤ l) (h4 : l ≤ 4) : 0 ≤ IntKind.u64.wrap l := by
  have e : l = 0 ∨ l = 1 ∨ l = 2 ∨ l = 3 ∨ l = 4 := by omega
  rcases e with rfl | rfl | rfl | rfl | rfl <;> decide
theorem rRightType (t : Typ) (hs : t.name.length ≤ 9223372036854775806) : PFn Tryz.prog 53 [t.enc] (.bool (rightT t)) := by
  have hn := rName t.name hs
  refine AFn.plain rfl rfl (AFn.enter [2] Tryz.func53 rfl rfl rfl rfl rfl (by decide) ?_)
  by_cases h1 : 0 ≤ t.lists
  · have e1 : decide (0 ≤ t.lists) = true := decide_eq_true h1
    by_cases h2 : t.lists ≤ 4
    · have e2 : decide (t.lists ≤ 4) = true := decide_eq_true h2
      by_cases h3 : 0 ≤ t.musts
      · have e3 : decide (0 ≤ t.musts) = true := decide_eq_true h3
        repeat' first
          | refine .br ?_
          | refine .seq ?_ | refine .rg ?_ | refine .rd ?_ | refine .block ?_ | refine .scope ?_ | refine .skip ?_ | refine .label ?_ | refine .exit ?_ | refine .ret ?_
          | refine .ct ?_ | refine .cf ?_ | refine .cy ?_ | refine .cn ?_ | (refine .cond rfl ?_ ?_ <;> intro hc)
          | refine A.nil_seq ?_ | refine .nl ?_ | refine .dd ?_ | refine .ys ?_ | refine .no ?_ | (refine A.guard rfl ?_ ?_ <;> intro hc)
          | refine .lb ?_ | refine .ln ?_ | refine .ls ?_ | refine .pv ?_ | refine .ix ?_ | refine .pt ?_ | refine .pf ?_ | refine .bx ?_ | refine .al ?_ | refine .st ?_ | refine .ad ?_ | refine .sb ?_ | refine .mf ?_ | refine .cl ?_ | refine .cw ?_ | refine .ck ?_
          | refine A.conv rfl rfl rfl rfl rfl ?_ | refine A.shl rfl rfl (wrap_u64 h1 h2) (shl_two h1 h2) ?_ | fail
        all_goals
          refine Fin.ret1 rfl (Weak.eq (congrArg AV.bool ?_))
          unfold rightT
          rw [e1, e2, e3]
          simp_all
      · have e3 : decide (0 ≤ t.musts) = false := decide_eq_false h3
        repeat' first
          | refine .br ?_
          | refine .seq ?_ | refine .rg ?_ | refine .rd ?_ | refine .block ?_ | refine .scope ?_ | refine .skip ?_ | refine .label ?_ | refine .exit ?_ | refine .ret ?_
          | refine .ct ?_ | refine .cf ?_ | refine .cy ?_ | refine .cn ?_ | (refine .cond rfl ?_ ?_ <;> intro hc)
          | refine A.nil_seq ?_ | refine .nl ?_ | refine .dd ?_ | refine .ys ?_ | refine .no ?_ | (refine A.guard rfl ?_ ?_ <;> intro hc)
          | refine .lb ?_ | refine .ln ?_ | refine .ls ?_ | refine .pv ?_ | refine .ix ?_ | refine .pt ?_ | refine .pf ?_ | refine .bx ?_ | refine .al ?_ | refine .st ?_ | refine .ad ?_ | refine .sb ?_ | refine .mf ?_ | refine .cl ?_ | refine .cw ?_ | refine .ck ?_ | fail
        all_goals
          refine Fin.ret1 rfl (Weak.eq (congrArg AV.bool ?_))
          unfold rightT
          rw [e3]; simp_all
    · have e2 : decide (t.lists ≤ 4) = false := decide_eq_false h2
      repeat' first
        | refine .br ?_
        | refine .seq ?_ | refine .rg ?_ | refine .rd ?_ | refine .block ?_ | refine .scope ?_ | refine .skip ?_ | refine .label ?_ | refine .exit ?_ | refine .ret ?_
        | refine .ct ?_ | refine .cf ?_ | refine .cy ?_ | refine .cn ?_ | (refine .cond rfl ?_ ?_ <;> intro hc)
        | refine A.nil_seq ?_ | refine .nl ?_ | refine .dd ?_ | refine .ys ?_ | refine .no ?_ | (refine A.guard rfl ?_ ?_ <;> intro hc)
        | refine .lb ?_ | refine .ln ?_ | refine .ls ?_ | refine .pv ?_ | refine .ix ?_ | refine .pt ?_ | refine .pf ?_ | refine .bx ?_ | refine .al ?_ | refine .st ?_ | refine .ad ?_ | refine .sb ?_ | refine .mf ?_ | refine .cl ?_ | refine .cw ?_ | refine .ck ?_ | fail
      all_goals
        refine Fin.ret1 rfl (Weak.eq (congrArg AV.bool ?_))
        unfold rightT
        rw [e2]; simp_all
  · have e1 : decide (0 ≤ t.lists) = false := decide_eq_false h1
    repeat' first
      | refine .br ?_
      | refine .seq ?_ | refine .rg ?_ | refine .rd ?_ | refine .block ?_ | refine .scope ?_ | refine .skip ?_ | refine .label ?_ | refine .exit ?_ | refine .ret ?_
      | refine .ct ?_ | refine .cf ?_ | refine .cy ?_ | refine .cn ?_ | (refine .cond rfl ?_ ?_ <;> intro hc)
      | refine A.nil_seq ?_ | refine .nl ?_ | refine .dd ?_ | refine .ys ?_ | refine .no ?_ | (refine A.guard rfl ?_ ?_ <;> intro hc)
      | refine .lb ?_ | refine .ln ?_ | refine .ls ?_ | refine .pv ?_ | refine .ix ?_ | refine .pt ?_ | refine .pf ?_ | refine .bx ?_ | refine .al ?_ | refine .st ?_ | refine .ad ?_ | refine .sb ?_ | refine .mf ?_ | refine .cl ?_ | refine .cw ?_ | refine .ck ?_ | fail
    all_goals
      refine Fin.ret1 rfl (Weak.eq (congrArg AV.bool ?_))
      unfold rightT
      rw [e1]; simp_all
theorem rIs (t : Typ) (hs : t.name.length ≤ 9223372036854775806) : PFn Tryz.prog 98 [t.enc] (.bool (isT t)) := by
  have hr := rRightType t hs
  refine AFn.plain rfl rfl (AFn.enter [2] Tryz.func98 rfl rfl rfl rfl rfl (by decide) ?_)
  cases c : rightT t with
  | true =>
    rw [c] at hr
    have h0 := (rightT_iff.1 c).2.2.2.1
    have h5 := musts_lt c
    repeat' first
      | refine .br ?_
      | refine .seq ?_ | refine .rg ?_ | refine .rd ?_ | refine .block ?_ | refine .scope ?_ | refine .skip ?_ | refine .label ?_ | refine .exit ?_ | refine .ret ?_
      | refine .ct ?_ | refine .cf ?_ | refine .cy ?_ | refine .cn ?_ | (refine .cond rfl ?_ ?_ <;> intro hc)
      | refine A.nil_seq ?_ | refine .nl ?_ | refine .dd ?_ | refine .ys ?_ | refine .no ?_ | (refine A.guard rfl ?_ ?_ <;> intro hc)
      | refine .lb ?_ | refine .ln ?_ | refine .ls ?_ | refine .pv ?_ | refine .ix ?_ | refine .pt ?_ | refine .pf ?_ | refine .bx ?_ | refine .al ?_ | refine .st ?_ | refine .ad ?_ | refine .sb ?_ | refine .mf ?_ | refine .cl ?_ | refine .cw ?_ | refine .ck ?_
      | refine A.band (m := t.musts.toNat) (n := 1) rfl rfl (by omega) rfl (by omega) (by decide) (and1 _) ?_ | fail
    refine Fin.ret1 rfl (Weak.eq (congrArg AV.bool ?_))
    unfold isT; rw [c, Bool.true_and, Bool.eq_iff_iff, beq_iff_eq, decide_eq_true_eq]; omega
  | false =>
    rw [c] at hr
    repeat' first
      | refine .br ?_
      | refine .seq ?_ | refine .rg ?_ | refine .rd ?_ | refine .block ?_ | refine .scope ?_ | refine .skip ?_ | refine .label ?_ | refine .exit ?_ | refine .ret ?_
      | refine .ct ?_ | refine .cf ?_ | refine .cy ?_ | refine .cn ?_ | (refine .cond rfl ?_ ?_ <;> intro hc)
      | refine A.nil_seq ?_ | refine .nl ?_ | refine .dd ?_ | refine .ys ?_ | refine .no ?_ | (refine A.guard rfl ?_ ?_ <;> intro hc)
      | refine .lb ?_ | refine .ln ?_ | refine .ls ?_ | refine .pv ?_ | refine .ix ?_ | refine .pt ?_ | refine .pf ?_ | refine .bx ?_ | refine .al ?_ | refine .st ?_ | refine .ad ?_ | refine .sb ?_ | refine .mf ?_ | refine .cl ?_ | refine .cw ?_ | refine .ck ?_ | fail
    refine Fin.ret1 rfl (Weak.eq (congrArg AV.bool ?_))
    unfold isT; rw [c]; rfl
theorem rItem (t : Typ) (hs : t.name.length ≤ 9223372036854775806) : PFn Tryz.prog 99 [t.enc] (.tup [(itemR t).1.enc, .bool (itemR t).2]) := by
  have hr := rRightType t hs
  refine AFn.plain rfl rfl (AFn.enterR [.cell 2 26, .tmp 3] Tryz.func99 rfl rfl rfl rfl rfl ?_)
  unfold itemR
  cases c : rightT t with
  | true =>
    rw [c] at hr
    obtain ⟨_, q1, q2, q3, q4⟩ := rightT_iff.1 c
    by_cases h0 : t.lists = 0
    · have e0 : (t.lists == 0) = true := by simp [h0]
      rw [if_neg (fun h => h.2 h0)]
      repeat' first
        | refine .br ?_
        | refine .seq ?_ | refine .rg ?_ | refine .rd ?_ | refine .block ?_ | refine .scope ?_ | refine .skip ?_ | refine .label ?_ | refine .exit ?_ | refine .ret ?_
        | refine .ct ?_ | refine .cf ?_ | refine .cy ?_ | refine .cn ?_ | (refine .cond rfl ?_ ?_ <;> intro hc)
        | refine A.nil_seq ?_ | refine .nl ?_ | refine .dd ?_ | refine .ys ?_ | refine .no ?_ | (refine A.guard rfl ?_ ?_ <;> intro hc)
        | refine .lb ?_ | refine .ln ?_ | refine .ls ?_ | refine .pv ?_ | refine .ix ?_ | refine .pt ?_ | refine .pf ?_ | refine .bx ?_ | refine .al ?_ | refine .st ?_ | refine .ad ?_ | refine .sb ?_ | refine .mf ?_ | refine .cl ?_ | refine .cw ?_ | refine .ck ?_ | fail
      exact FinR.ret1 rfl (Weak.refl _)
    · have e0 : (t.lists == 0) = false := by simp [h0]
      rw [if_pos ⟨rfl, h0⟩]
      repeat' first
        | refine .br ?_
        | refine .seq ?_ | refine .rg ?_ | refine .rd ?_ | refine .block ?_ | refine .scope ?_ | refine .skip ?_ | refine .label ?_ | refine .exit ?_ | refine .ret ?_
        | refine .ct ?_ | refine .cf ?_ | refine .cy ?_ | refine .cn ?_ | (refine .cond rfl ?_ ?_ <;> intro hc)
        | refine A.nil_seq ?_ | refine .nl ?_ | refine .dd ?_ | refine .ys ?_ | refine .no ?_ | (refine A.guard rfl ?_ ?_ <;> intro hc)
        | refine .lb ?_ | refine .ln ?_ | refine .ls ?_ | refine .pv ?_ | refine .ix ?_ | refine .pt ?_ | refine .pf ?_ | refine .bx ?_ | refine .al ?_ | refine .st ?_ | refine .ad ?_ | refine .sb ?_ | refine .mf ?_ | refine .cl ?_ | refine .cw ?_ | refine .ck ?_
        | refine A.shr rfl rfl (by decide) shr_one ?_ | fail
      exact FinR.ret1 rfl (Weak.refl _)
  | false =>
    rw [c] at hr
    rw [if_neg (fun h => by cases h.1)]
    repeat' first
      | refine .br ?_
      | refine .seq ?_ | refine .rg ?_ | refine .rd ?_ | refine .block ?_ | refine .scope ?_ | refine .skip ?_ | refine .label ?_ | refine .exit ?_ | refine .ret ?_
      | refine .ct ?_ | refine .cf ?_ | refine .cy ?_ | refine .cn ?_ | (refine .cond rfl ?_ ?_ <;> intro hc)
      | refine A.nil_seq ?_ | refine .nl ?_ | refine .dd ?_ | refine .ys ?_ | refine .no ?_ | (refine A.guard rfl ?_ ?_ <;> intro hc)
      | refine .lb ?_ | refine .ln ?_ | refine .ls ?_ | refine .pv ?_ | refine .ix ?_ | refine .pt ?_ | refine .pf ?_ | refine .bx ?_ | refine .al ?_ | refine .st ?_ | refine .ad ?_ | refine .sb ?_ | refine .mf ?_ | refine .cl ?_ | refine .cw ?_ | refine .ck ?_ | fail
    exact FinR.ret1 rfl (Weak.refl _)
end Go.Proofs.YtpidjkihngiaoaaGreatDoor
