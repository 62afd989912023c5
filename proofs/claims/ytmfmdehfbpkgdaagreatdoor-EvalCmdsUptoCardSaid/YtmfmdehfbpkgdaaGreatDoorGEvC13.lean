/-
  Contracts and plain facts for a law, joined.
-/
import Derived.Test.YtmfmdehfbpkgdaaGreatDoorGEvC2
import Derived.Test.YtmfmdehfbpkgdaaGreatDoorGEvC3
import Derived.Lib.TrimUEq
import Derived.Lib.ValidLaws
import Derived.Lib.ParseIntB
set_option maxRecDepth 100000
set_option maxHeartbeats 16000000
set_option linter.unusedVariables false
set_option linter.unusedSimpArgs false
set_option linter.unusedSectionVars false
namespace Go.Proofs.YtmfmdehfbpkgdaaGreatDoor
open Go Go.Av
attribute [local irreducible] HCode AOps PFn AFn Av.Step TStep
theorem rStart (c : UInt8) : PFn Tryz.prog 162 [.int .u8 (c.toNat : Int)] (.bool (letC c)) := by
  refine AFn.plain rfl rfl (AFn.en [2] Tryz.func162 ?_)
  repeat' first | refine .s1 ?_ | (refine .q ?_ ?_ <;> intro hc) | fail
  all_goals
    refine Fin.rb ?_
    unfold letC; rw [Bool.eq_iff_iff]; simp at *; omega
theorem rDigit (c : UInt8) : PFn Tryz.prog 163 [.int .u8 (c.toNat : Int)] (.bool (digC c)) := by
  refine AFn.plain rfl rfl (AFn.en [2] Tryz.func163 ?_)
  repeat' first | refine .s1 ?_ | (refine .q ?_ ?_ <;> intro hc) | fail
  all_goals
    refine Fin.rb ?_
    unfold digC; rw [Bool.eq_iff_iff]; simp at *; omega
theorem rName (s : Str) (hs : s.length ≤ 9223372036854775806) : PFn Tryz.prog 126 [.str s] (.bool (nameB s)) := by
  refine AFn.plain rfl rfl (AFn.en [2] Tryz.func126 ?_)
  by_cases h0 : s = []
  · subst h0
    refine .go ?_
    exact Fin.r0
  · have e0 : (s == []) = false := by simpa using h0
    have hl : 0 < s.length := List.length_pos_iff.2 h0
    have x0 : s[0]? = some s[0] := get_str hl
    have hst := rStart s[0]
    have hn : nameB s = (letC s[0] && nmC false (s.drop 1)) := by
      cases s with
      | nil => exact absurd rfl h0
      | cons c r => simp [nameB, nmC]
    repeat' first | refine .s1 ?_ | (refine .q ?_ ?_ <;> intro hc) | refine .is ?_ | fail
    · refine Fin.rb ?_
      rw [hn]; simp_all
    · refine HCode.forK (s.length - 1) (fun k => [(3, .int .i64 ((k + 1 : Nat) : Int)), (0, .str s)]) (fun _ => ⟨[], []⟩) (fun k => nameB s = nmC false (s.drop (k + 1))) ⟨rfl, rfl, trivial⟩ rfl (by rw [hn]; simp_all) fun k hk hp => ?_
      by_cases h1 : k + 1 < s.length
      · have d1 : decide (((k + 1 : Nat) : Int) < (s.length : Int)) = true := decide_eq_true (by omega)
        have x1 := get_str h1
        have h2 := rStart s[k + 1]
        have h3 := rDigit s[k + 1]
        have hd := nmC_drop (z := false) h1
        repeat' first | refine .s1 ?_ | (refine .q ?_ ?_ <;> intro hc) | refine .is ?_ | fail
        all_goals first | (refine Fin.rb ?_; rw [hp, hd]; simp_all; done) | (exact ⟨by omega, ⟨rfl, rfl, trivial⟩, by simp [belowS, AV.low], rfl, rfl, by rw [hp, hd]; simp_all⟩)
      · have d1 : decide (((k + 1 : Nat) : Int) < (s.length : Int)) = false := decide_eq_false (by omega)
        refine .go ?_
        refine Fin.rb ?_
        rw [hp, List.drop_eq_nil_of_le (by omega), nmC]
theorem rHas (l : List Str) (x : Str) (hl : l.length ≤ 9223372036854775807) : PFn Tryz.prog 53 [.slice (l.map AV.str) .no, .str x] (.bool (decide (x ∈ l))) := by
  refine AFn.plain rfl (by simp [AV.closed, AV.closedL, str_closedL]) (AFn.en [4] Tryz.func53 ?_)
  refine .go ?_
  refine HCode.forK l.length (fun k => [(5, .int .i64 k), (0, .slice (l.map AV.str) .no), (1, .str x)]) (fun _ => ⟨[], []⟩) (fun k => decide (x ∈ l) = decide (x ∈ l.drop k)) ⟨rfl, rfl, rfl, trivial⟩ rfl rfl fun k hk hp => ?_
  by_cases h1 : k < l.length
  · have d1 : decide ((k : Int) < (l.length : Int)) = true := by simp [h1]
    have x1 := map_get' (f := AV.str) h1
    have hd : (x ∈ l.drop k) ↔ (x = l[k] ∨ x ∈ l.drop (k + 1)) := by rw [List.drop_eq_getElem_cons h1, List.mem_cons]
    repeat' first | refine .s1 ?_ | (refine .q ?_ ?_ <;> intro hc) | fail
    · refine Fin.rb ?_
      rw [hp, Eq.comm, decide_eq_true_eq, hd]
      exact .inl (by simpa using Eq.symm (by simpa using hc))
    · exact ⟨h1, ⟨rfl, rfl, rfl, trivial⟩, by simp [belowS, AV.low], rfl, rfl, by
        rw [hp, decide_eq_decide, hd]
        have : ¬ x = l[k] := fun e => by rw [← e] at hc; simp at hc
        simp [this]⟩
  · have d1 : decide ((k : Int) < (l.length : Int)) = false := by simp; omega
    refine .go ?_
    refine Fin.rb ?_
    rw [hp, List.drop_eq_nil_of_le (by omega)]; simp
theorem shl_two {l : Int} (h0 : 0 ≤ l) (h4 : l ≤ 4) : IntKind.i64.wrap (2 * 2 ^ min (IntKind.u64.wrap l).toNat IntKind.i64.bits) = 2 ^ (l.toNat + 1) := by
  have e : l = 0 ∨ l = 1 ∨ l = 2 ∨ l = 3 ∨ l = 4 := by omega
  rcases e with rfl | rfl | rfl | rfl | rfl <;> rfl
theorem wrap_u64 {l : Int} (h0 : 0 ≤ l) (h4 : l ≤ 4) : 0 ≤ IntKind.u64.wrap l := by
  have e : l = 0 ∨ l = 1 ∨ l = 2 ∨ l = 3 ∨ l = 4 := by omega
  rcases e with rfl | rfl | rfl | rfl | rfl <;> decide
theorem rRightType (t : Typ) (hs : t.name.length ≤ 9223372036854775806) : PFn Tryz.prog 164 [t.enc] (.bool (rightT t)) := by
  have hn := rName t.name hs
  refine AFn.plain rfl rfl (AFn.en [2] Tryz.func164 ?_)
  by_cases h1 : 0 ≤ t.lists
  · have e1 : decide (0 ≤ t.lists) = true := decide_eq_true h1
    by_cases h2 : t.lists ≤ 4
    · have e2 : decide (t.lists ≤ 4) = true := decide_eq_true h2
      by_cases h3 : 0 ≤ t.musts
      · have e3 : decide (0 ≤ t.musts) = true := decide_eq_true h3
        repeat' first | refine .br ?_ | refine .s1 ?_ | (refine .q ?_ ?_ <;> intro hc) | refine A.conv rfl rfl rfl rfl rfl ?_ | refine A.shl rfl rfl (wrap_u64 h1 h2) (shl_two h1 h2) ?_ | fail
        all_goals
          refine Fin.rb ?_
          unfold rightT
          rw [e1, e2, e3]
          simp_all
      · have e3 : decide (0 ≤ t.musts) = false := decide_eq_false h3
        repeat' first | refine .br ?_ | refine .s1 ?_ | (refine .q ?_ ?_ <;> intro hc) | fail
        all_goals
          refine Fin.rb ?_
          unfold rightT
          rw [e3]; simp_all
    · have e2 : decide (t.lists ≤ 4) = false := decide_eq_false h2
      repeat' first | refine .br ?_ | refine .s1 ?_ | (refine .q ?_ ?_ <;> intro hc) | fail
      all_goals
        refine Fin.rb ?_
        unfold rightT
        rw [e2]; simp_all
  · have e1 : decide (0 ≤ t.lists) = false := decide_eq_false h1
    repeat' first | refine .br ?_ | refine .s1 ?_ | (refine .q ?_ ?_ <;> intro hc) | fail
    all_goals
      refine Fin.rb ?_
      unfold rightT
      rw [e1]; simp_all
theorem rIs (t : Typ) (hs : t.name.length ≤ 9223372036854775806) : PFn Tryz.prog 130 [t.enc] (.bool (isT t)) := by
  have hr := rRightType t hs
  refine AFn.plain rfl rfl (AFn.en [2] Tryz.func130 ?_)
  cases c : rightT t with
  | true =>
    rw [c] at hr
    have h0 := (rightT_iff.1 c).2.2.2.1
    have h5 := musts_lt c
    repeat' first | refine .br ?_ | refine .s1 ?_ | (refine .q ?_ ?_ <;> intro hc) | refine A.band (m := t.musts.toNat) (n := 1) rfl rfl (by omega) rfl (by omega) (by decide) (and1 _) ?_ | fail
    refine Fin.rb ?_
    unfold isT; rw [c, Bool.true_and, Bool.eq_iff_iff, beq_iff_eq, decide_eq_true_eq]; omega
  | false =>
    rw [c] at hr
    refine .gob ?_
    refine Fin.rb ?_
    unfold isT; rw [c]; rfl
theorem rItem (t : Typ) (hs : t.name.length ≤ 9223372036854775806) : PFn Tryz.prog 191 [t.enc] (.tup [(itemR t).1.enc, .bool (itemR t).2]) := by
  have hr := rRightType t hs
  refine AFn.plain rfl rfl (AFn.eR [.cell 2 27, .tmp 3] Tryz.func191 ?_)
  unfold itemR
  cases c : rightT t with
  | true =>
    rw [c] at hr
    obtain ⟨_, q1, q2, q3, q4⟩ := rightT_iff.1 c
    by_cases h0 : t.lists = 0
    · have e0 : (t.lists == 0) = true := by simp [h0]
      rw [if_neg (fun h => h.2 h0)]
      refine .gob ?_
      exact FinR.r0
    · have e0 : (t.lists == 0) = false := by simp [h0]
      rw [if_pos ⟨rfl, h0⟩]
      repeat' first | refine .br ?_ | refine .s1 ?_ | (refine .q ?_ ?_ <;> intro hc) | refine A.shr rfl rfl (by decide) shr_one ?_ | fail
      exact FinR.r0
  | false =>
    rw [c] at hr
    rw [if_neg (fun h => by cases h.1)]
    refine .gob ?_
    exact FinR.r0
end Go.Proofs.YtmfmdehfbpkgdaaGreatDoor
namespace Go.Av
open Go
section
variable [Globals]
variable {P : Program} {all : Array Oper} {draw : Bool} {K : AX → Slots → St → Prop} {rest : List Oper} {acc : List Tag} {s : Slots} {σ : St} {d : Tmp} {ty : TypeId} {pos : String} {af : Array Edge}
theorem A.shl6 {x y : Operand} {T U : TypeId} {a : Int} {m : Nat} {k2 : IntKind} (hx : ev? s x = some (.int .i64 a)) (hy : ev? s y = some (.int k2 6)) (ha : a = (m : Int)) (hm : m < 144115188075855872)
    (k' : AOps P all draw K rest (.pure :: acc) ((d, .int .i64 ((m * 64 : Nat) : Int)) :: s) σ) : AOps P all draw K (⟨some d, .binOp .shl T x y U, ty, pos, af, none⟩ :: rest) acc s σ :=
  A.shl hx hy (by decide) (by
    subst ha
    have e : ((m : Int) * 2 ^ min (6 : Int).toNat IntKind.i64.bits) = ((m * 64 : Nat) : Int) := by
      rw [show min (6 : Int).toNat IntKind.i64.bits = 6 from rfl, Int.natCast_mul]; rfl
    rw [e, wrap_nat (by omega)]) k'
end
end Go.Av
namespace Go.Proofs.YtmfmdehfbpkgdaaGreatDoor
open Go Go.Av
attribute [local irreducible] HCode AOps PFn AFn Av.Step TStep
def finC (c low w : Nat) : Nat × Nat := if c < low ∨ 1114111 < c ∨ (55296 ≤ c ∧ c < 57344) then (0, 0) else (c, w)
def codeP (n b0 b1 b2 b3 : Nat) : Nat × Nat :=
  if b0 < 128 then (b0, 1)
  else if 194 ≤ b0 ∧ b0 < 224 then (if 2 ≤ n ∧ (128 ≤ b1 ∧ b1 ≤ 191) then finC (b0 % 32 * 64 + b1 % 64) 128 2 else (0, 0))
  else if 224 ≤ b0 ∧ b0 < 240 then (if 3 ≤ n ∧ (128 ≤ b1 ∧ b1 ≤ 191) ∧ (128 ≤ b2 ∧ b2 ≤ 191) then finC ((b0 % 16 * 64 + b1 % 64) * 64 + b2 % 64) 2048 3 else (0, 0))
  else if 240 ≤ b0 ∧ b0 < 245 then (if 4 ≤ n ∧ (128 ≤ b1 ∧ b1 ≤ 191) ∧ (128 ≤ b2 ∧ b2 ≤ 191) ∧ (128 ≤ b3 ∧ b3 ≤ 191) then finC (((b0 % 8 * 64 + b1 % 64) * 64 + b2 % 64) * 64 + b3 % 64) 65536 4 else (0, 0))
  else (0, 0)
theorem codeP_eq (n b0 b1 b2 b3 : Nat) (h0 : b0 < 256) (h1 : b1 < 256) (h2 : b2 < 256) (h3 : b3 < 256) :
    codeP n b0 b1 b2 b3 = if Lib.decodeN n b0 b1 b2 b3 = (65533, 1) then (0, 0) else Lib.decodeN n b0 b1 b2 b3 := by
  unfold codeP Lib.decodeN finC
  repeat' split
  all_goals first | rfl | (exfalso; simp only [Prod.mk.injEq] at *; omega) | (simp only [Prod.mk.injEq] at *; omega) | (exfalso; rename_i hx; exact hx rfl) | (exfalso; simp only [Prod.mk.injEq, and_self, and_true, true_and, not_true_eq_false] at *; done) | (exfalso; simp only [Prod.mk.injEq, and_self, and_true, true_and, not_true_eq_false] at *; omega) | (simp only [Prod.mk.injEq, and_self, and_true, true_and] at *; omega)
def codeL (l : Str) : Nat × Nat := if Lib.decodeL l = (65533, 1) then (0, 0) else Lib.decodeL l
theorem codeL_eq (s : Str) (i : Nat) : codeL (s.drop i) = codeP (s.length - i) (s.getD i 0).toNat (s.getD (i + 1) 0).toNat (s.getD (i + 2) 0).toNat (s.getD (i + 3) 0).toNat := by
  unfold codeL
  rw [codeP_eq _ _ _ _ _ (UInt8.toNat_lt _) (UInt8.toNat_lt _) (UInt8.toNat_lt _) (UInt8.toNat_lt _), Lib.decodeL_N, List.length_drop, Lib.getD_dropU, Lib.getD_dropU, Lib.getD_dropU, Lib.getD_dropU, Nat.add_zero]
theorem conv_u8 (c : UInt8) : IntKind.i64.wrap (c.toNat : Int) = (c.toNat : Int) := wrap_nat (by have := UInt8.toNat_lt c; omega)
def cAcc (f : Nat → Nat) (c0 : Nat) : Nat → Nat
  | 0 => c0
  | j + 1 => cAcc f c0 j * 64 + f (j + 1) % 64
theorem cAcc_lt (f : Nat → Nat) {c0 : Nat} (h0 : c0 < 32) : ∀ {j : Nat}, j ≤ 3 → cAcc f c0 j < 8388608
  | 0, _ => by rw [cAcc]; omega
  | 1, _ => by rw [cAcc, cAcc]; omega
  | 2, _ => by rw [cAcc, cAcc, cAcc]; omega
  | 3, _ => by rw [cAcc, cAcc, cAcc, cAcc]; omega
def byteAt (s : Str) (i k : Nat) : Nat := (s.getD (i + k) 0).toNat
theorem byteAt_of {s : Str} {i k : Nat} (h : i + k < s.length) : byteAt s i k = s[i + k].toNat := by unfold byteAt; simp [List.getD, h]
def contB (b : Nat) : Bool := decide (128 ≤ b) && decide (b ≤ 191)
def contAll (s : Str) (i : Nat) : Nat → Nat → Bool
  | _, 0 => true
  | k, n + 1 => contB (byteAt s i k) && contAll s i (k + 1) n
def restC (s : Str) (i N LO c0 : Nat) : Nat × Nat := if N ≤ s.length - i then (if contAll s i 1 (N - 1) = true then finC (cAcc (byteAt s i) c0 (N - 1)) LO N else (0, 0)) else (0, 0)
abbrev pairV (p : Nat × Nat) : AV := .tup [.int .i64 (p.1 : Int), .int .i64 (p.2 : Int)]
attribute [local irreducible] Int.decLt Int.decLe Int.le Int.lt in
theorem codeEnd (N LO c : Nat) : HCode Tryz.prog Tryz.f227.ntmps [] (tailOf 8 (bodyOf Tryz.f227)) (fin [4, 5] (fun e _ => ∃ v, e = .ret v ∧ Weak v (pairV (finC c LO N))))
    [(6, .int .i64 (c : Int)), (7, .int .i64 (N : Int)), (8, .int .i64 (LO : Int))] ⟨[], []⟩ := by
  by_cases w1 : c < LO
  · have v1 : decide ((c : Int) < (LO : Int)) = true := decide_eq_true (by omega)
    refine .go ?_
    refine Fin.two rfl rfl (Weak.eq ?_)
    rw [finC, if_pos (.inl w1)]; rfl
  · have v1 : decide ((c : Int) < (LO : Int)) = false := decide_eq_false (by omega)
    by_cases w2 : 1114111 < c
    · have v2 : decide ((c : Int) > 1114111) = true := decide_eq_true (by omega)
      refine .go ?_
      refine Fin.two rfl rfl (Weak.eq ?_)
      rw [finC, if_pos (.inr (.inl w2))]; rfl
    · have v2 : decide ((c : Int) > 1114111) = false := decide_eq_false (by omega)
      by_cases w3 : 55296 ≤ c
      · have v3 : decide ((c : Int) ≥ 55296) = true := decide_eq_true (by omega)
        by_cases w4 : c < 57344
        · have v4 : decide ((c : Int) < 57344) = true := decide_eq_true (by omega)
          refine .go ?_
          refine Fin.two rfl rfl (Weak.eq ?_)
          rw [finC, if_pos (.inr (.inr ⟨w3, w4⟩))]; rfl
        · have v4 : decide ((c : Int) < 57344) = false := decide_eq_false (by omega)
          refine .go ?_
          refine Fin.two rfl rfl (Weak.eq ?_)
          rw [finC, if_neg (by omega)]
      · have v3 : decide ((c : Int) ≥ 55296) = false := decide_eq_false (by omega)
        refine .go ?_
        refine Fin.two rfl rfl (Weak.eq ?_)
        rw [finC, if_neg (by omega)]
theorem contAll_stop {s : Str} {i : Nat} : ∀ {n k j : Nat}, k ≤ j → j < k + n → contB (byteAt s i j) = false → contAll s i k n = false
  | 0, k, j, h1, h2, _ => by omega
  | n + 1, k, j, h1, h2, h => by
    rw [contAll]
    by_cases e : k = j
    · subst e; rw [h]; rfl
    · rw [contAll_stop (by omega) (by omega) h, Bool.and_false]
theorem contAll_all {s : Str} {i : Nat} : ∀ {n k : Nat}, (∀ j, k ≤ j → j < k + n → contB (byteAt s i j) = true) → contAll s i k n = true
  | 0, _, _ => rfl
  | n + 1, k, h => by
    rw [contAll, h k (Nat.le_refl _) (by omega), contAll_all fun j h1 h2 => h j (by omega) (by omega)]; rfl
attribute [local irreducible] Int.decLt Int.decLe Int.le Int.lt in
theorem codeRest (s : Str) (i N LO c0 : Nat) (hi : i < s.length) (hs : s.length ≤ 4611686018427387904) (hN : 2 ≤ N ∧ N ≤ 4) (hc0 : c0 < 32) :
    HCode Tryz.prog Tryz.f227.ntmps [] (tailOf 6 (bodyOf Tryz.f227)) (fin [4, 5] (fun e _ => ∃ v, e = .ret v ∧ Weak v (pairV (restC s i N LO c0))))
      [(6, .int .i64 (c0 : Int)), (7, .int .i64 (N : Int)), (8, .int .i64 (LO : Int)), (0, .str s), (1, .int .i64 (i : Int))] ⟨[], []⟩ := by
  unfold restC
  by_cases hn : N ≤ s.length - i
  · have d2 : decide ((N : Int) > (s.length : Int) - (i : Int)) = false := decide_eq_false (by omega)
    rw [if_pos hn]
    refine .go ?_
    change HCode _ _ _ _ _ _ _
    refine HCode.loop (fun n σs σ => ∃ j : Nat, n = N - 1 - j ∧ j ≤ N - 1 ∧ (∀ k, 1 ≤ k → k ≤ j → contB (byteAt s i k) = true) ∧ σ = ⟨[], []⟩ ∧
      σs = [(9, .int .i64 ((j + 1 : Nat) : Int)), (7, .int .i64 (N : Int)), (6, .int .i64 ((cAcc (byteAt s i) c0 j : Nat) : Int)), (0, .str s), (1, .int .i64 (i : Int)), (8, .int .i64 (LO : Int))])
      (s0 := [(9, .int .i64 ((0 + 1 : Nat) : Int)), (7, .int .i64 (N : Int)), (6, .int .i64 ((cAcc (byteAt s i) c0 0 : Nat) : Int)), (0, .str s), (1, .int .i64 (i : Int)), (8, .int .i64 (LO : Int))])
      ⟨rfl, rfl, rfl, rfl, rfl, rfl, trivial⟩ ⟨0, rfl, Nat.zero_le _, fun k h1 h2 => by omega, rfl, rfl⟩ ?_
    rintro n σs σ ⟨j, rfl, hj, hcont, rfl, rfl⟩
    have hacc := cAcc_lt (byteAt s i) hc0 (j := j) (by omega)
    by_cases h1 : j + 1 < N
    · have d3 : decide (((j + 1 : Nat) : Int) < (N : Int)) = true := decide_eq_true (by omega)
      have hk : i + (j + 1) < s.length := by omega
      have xk := get_str hk
      have hbk := UInt8.toNat_lt s[i + (j + 1)]
      have gk := byteAt_of (s := s) (i := i) (k := j + 1) hk
      by_cases k1 : s[i + (j + 1)].toNat < 128
      · have d4 : decide ((s[i + (j + 1)].toNat : Int) < 128) = true := decide_eq_true (by omega)
        have hq : contB (byteAt s i (j + 1)) = false := by rw [gk]; unfold contB; rw [decide_eq_false (by omega)]; rfl
        rw [contAll_stop (j := j + 1) (by omega) (by omega) hq, if_neg (by decide)]
        repeat' first | refine .s1 ?_ | (refine .q ?_ ?_ <;> intro hc) | refine A.index_s (j := i + (j + 1)) rfl rfl rfl rfl rfl (by assumption) ?_ | refine A.conv rfl rfl rfl rfl (conv_u8 _) ?_ | fail
        exact Fin.two rfl rfl (Weak.refl _)
      · have d4 : decide ((s[i + (j + 1)].toNat : Int) < 128) = false := decide_eq_false (by omega)
        by_cases k2 : 191 < s[i + (j + 1)].toNat
        · have d5 : decide ((s[i + (j + 1)].toNat : Int) > 191) = true := decide_eq_true (by omega)
          have hq : contB (byteAt s i (j + 1)) = false := by rw [gk]; unfold contB; rw [decide_eq_true (by omega), decide_eq_false (by omega)]; rfl
          rw [contAll_stop (j := j + 1) (by omega) (by omega) hq, if_neg (by decide)]
          repeat' first | refine .s1 ?_ | (refine .q ?_ ?_ <;> intro hc) | refine A.index_s (j := i + (j + 1)) rfl rfl rfl rfl rfl (by assumption) ?_ | refine A.conv rfl rfl rfl rfl (conv_u8 _) ?_ | fail
          exact Fin.two rfl rfl (Weak.refl _)
        · have d5 : decide ((s[i + (j + 1)].toNat : Int) > 191) = false := decide_eq_false (by omega)
          repeat' first | refine .s1 ?_ | (refine .q ?_ ?_ <;> intro hc) | refine A.index_s (j := i + (j + 1)) rfl rfl rfl rfl rfl (by assumption) ?_ | refine A.conv rfl rfl rfl rfl (conv_u8 _) ?_ | refine A.shl6 rfl rfl rfl (by omega) ?_ | refine A.band (n := 63) rfl rfl rfl rfl (by omega) (by decide) (and63 _) ?_ | refine A.bor rfl rfl rfl rfl (by omega) (by omega) (or64 _ _ (by omega)) ?_ | fail
          refine ⟨N - 1 - (j + 1), by omega, [(9, .int .i64 ((j + 1 + 1 : Nat) : Int)), (7, .int .i64 (N : Int)), (6, .int .i64 ((cAcc (byteAt s i) c0 (j + 1) : Nat) : Int)), (0, .str s), (1, .int .i64 (i : Int)), (8, .int .i64 (LO : Int))],
            ⟨rfl, rfl, by rw [cAcc, gk]; rfl, rfl, rfl, rfl, trivial⟩, by simp [belowS, AV.low], rfl, j + 1, rfl, by omega, fun k q1 q2 => ?_, rfl, rfl⟩
          by_cases e : k = j + 1
          · subst e; rw [gk]; unfold contB; rw [decide_eq_true (by omega), decide_eq_true (by omega)]; rfl
          · exact hcont k q1 (by omega)
    · have d3 : decide (((j + 1 : Nat) : Int) < (N : Int)) = false := decide_eq_false (by omega)
      obtain rfl : j = N - 1 := by omega
      rw [contAll_all fun k q1 q2 => hcont k q1 (by omega), if_pos rfl]
      have hend := codeEnd N LO (cAcc (byteAt s i) c0 (N - 1))
      repeat' first | (refine HCode.weaken hend ?_; exact ⟨rfl, rfl, rfl, trivial⟩) | refine .s1 ?_ | (refine .q ?_ ?_ <;> intro hc) | fail
  · have d2 : decide ((N : Int) > (s.length : Int) - (i : Int)) = true := decide_eq_true (by omega)
    rw [if_neg hn]
    refine .go ?_
    exact Fin.two rfl rfl (Weak.refl _)
end Go.Proofs.YtmfmdehfbpkgdaaGreatDoor
namespace Go.Proofs.YtmfmdehfbpkgdaaGreatDoor
open Go Go.Av
attribute [local irreducible] HCode AOps PFn AFn Av.Step TStep
theorem code_is {s : Str} {i : Nat} (hi : i < s.length) : codeL (s.drop i) = codeP (s.length - i) s[i].toNat (byteAt s i 1) (byteAt s i 2) (byteAt s i 3) := by
  have g0 : byteAt s i 0 = s[i].toNat := byteAt_of (k := 0) hi
  rw [codeL_eq, ← g0]; rfl
theorem code_2 {s : Str} {i : Nat} (hi : i < s.length) (h : 194 ≤ s[i].toNat ∧ s[i].toNat < 224) : codeL (s.drop i) = restC s i 2 128 (s[i].toNat % 32) := by
  rw [code_is hi, codeP, if_neg (by omega), if_pos h]
  unfold restC
  simp only [contAll, contB, cAcc, Nat.reduceSub, Bool.and_true, Bool.and_eq_true, decide_eq_true_eq]
  by_cases a : 2 ≤ s.length - i
  · rw [if_pos a]
    by_cases b : 128 ≤ byteAt s i 1 ∧ byteAt s i 1 ≤ 191
    · rw [if_pos ⟨a, b⟩, if_pos b]
    · rw [if_neg (fun h => b h.2), if_neg b]
  · rw [if_neg (fun h => a h.1), if_neg a]
theorem code_3 {s : Str} {i : Nat} (hi : i < s.length) (h : 224 ≤ s[i].toNat ∧ s[i].toNat < 240) : codeL (s.drop i) = restC s i 3 2048 (s[i].toNat % 16) := by
  rw [code_is hi, codeP, if_neg (by omega), if_neg (by omega), if_pos h]
  unfold restC
  simp only [contAll, contB, cAcc, Nat.reduceSub, Bool.and_true, Bool.and_eq_true, decide_eq_true_eq]
  by_cases a : 3 ≤ s.length - i
  · rw [if_pos a]
    by_cases b : (128 ≤ byteAt s i 1 ∧ byteAt s i 1 ≤ 191) ∧ (128 ≤ byteAt s i 2 ∧ byteAt s i 2 ≤ 191)
    · rw [if_pos ⟨a, b⟩, if_pos b]
    · rw [if_neg (fun h => b h.2), if_neg b]
  · rw [if_neg (fun h => a h.1), if_neg a]
theorem code_4 {s : Str} {i : Nat} (hi : i < s.length) (h : 240 ≤ s[i].toNat ∧ s[i].toNat < 245) : codeL (s.drop i) = restC s i 4 65536 (s[i].toNat % 8) := by
  rw [code_is hi, codeP, if_neg (by omega), if_neg (by omega), if_neg (by omega), if_pos h]
  unfold restC
  simp only [contAll, contB, cAcc, Nat.reduceSub, Bool.and_true, Bool.and_eq_true, decide_eq_true_eq]
  by_cases a : 4 ≤ s.length - i
  · rw [if_pos a]
    by_cases b : (128 ≤ byteAt s i 1 ∧ byteAt s i 1 ≤ 191) ∧ (128 ≤ byteAt s i 2 ∧ byteAt s i 2 ≤ 191) ∧ (128 ≤ byteAt s i 3 ∧ byteAt s i 3 ≤ 191)
    · rw [if_pos ⟨a, b⟩, if_pos b]
    · rw [if_neg (fun h => b h.2), if_neg b]
  · rw [if_neg (fun h => a h.1), if_neg a]
theorem code_1 {s : Str} {i : Nat} (hi : i < s.length) (h : s[i].toNat < 128) : codeL (s.drop i) = (s[i].toNat, 1) := by
  rw [code_is hi, codeP, if_pos h]
theorem code_0 {s : Str} {i : Nat} (hi : i < s.length) (h0 : ¬ s[i].toNat < 128) (h2 : ¬ (194 ≤ s[i].toNat ∧ s[i].toNat < 224)) (h3 : ¬ (224 ≤ s[i].toNat ∧ s[i].toNat < 240)) (h4 : ¬ (240 ≤ s[i].toNat ∧ s[i].toNat < 245)) : codeL (s.drop i) = (0, 0) := by
  rw [code_is hi, codeP, if_neg h0, if_neg h2, if_neg h3, if_neg h4]
attribute [local irreducible] Int.decLt Int.decLe Int.le Int.lt in
theorem rCode (s : Str) (i : Nat) (hi : i < s.length) (hs : s.length ≤ 4611686018427387904) :
    PFn Tryz.prog 227 [.str s, .int .i64 (i : Int)] (pairV (codeL (s.drop i))) := by
  have x0 := get_str hi
  have hb0 := UInt8.toNat_lt s[i]
  have hbN : s[i].toNat < 9223372036854775808 := by omega
  have e1 : decide ((i : Int) < 0) = false := decide_eq_false (by omega)
  have e2 : decide ((i : Int) ≥ (s.length : Int)) = false := decide_eq_false (by omega)
  by_cases c1 : s[i].toNat < 128
  · have d1 : decide ((s[i].toNat : Int) < 128) = true := decide_eq_true (by omega)
    rw [code_1 hi c1]
    refine AFn.plain rfl rfl (AFn.en [4, 5] Tryz.func227 ?_)
    repeat' first | refine .s1 ?_ | (refine .q ?_ ?_ <;> intro hc) | refine A.index_s rfl rfl rfl rfl rfl (by assumption) ?_ | refine A.conv rfl rfl rfl rfl (conv_u8 _) ?_ | fail
    exact Fin.two rfl rfl (Weak.refl _)
  · have d1 : decide ((s[i].toNat : Int) < 128) = false := decide_eq_false (by omega)
    by_cases c2 : 194 ≤ s[i].toNat ∧ s[i].toNat < 224
    · have f1 : decide ((s[i].toNat : Int) ≥ 194) = true := decide_eq_true (by omega)
      have f2 : decide ((s[i].toNat : Int) < 224) = true := decide_eq_true (by omega)
      have hrest := codeRest s i 2 128 (s[i].toNat % 32) hi hs ⟨by decide, by decide⟩ (by omega)
      rw [code_2 hi c2]
      refine AFn.plain rfl rfl (AFn.en [4, 5] Tryz.func227 ?_)
      repeat' first | (refine HCode.weaken hrest ?_; exact ⟨rfl, rfl, rfl, rfl, rfl, trivial⟩) | refine .s1 ?_ | (refine .q ?_ ?_ <;> intro hc) | refine A.index_s rfl rfl rfl rfl rfl (by assumption) ?_ | refine A.conv rfl rfl rfl rfl (conv_u8 _) ?_ | refine A.band (n := 31) rfl rfl rfl rfl hbN (by decide) (and31 _) ?_ | fail
    · by_cases c3 : 224 ≤ s[i].toNat ∧ s[i].toNat < 240
      · have f1 : decide ((s[i].toNat : Int) ≥ 194) = true := decide_eq_true (by omega)
        have f2 : decide ((s[i].toNat : Int) < 224) = false := decide_eq_false (by omega)
        have f3 : decide ((s[i].toNat : Int) ≥ 224) = true := decide_eq_true (by omega)
        have f4 : decide ((s[i].toNat : Int) < 240) = true := decide_eq_true (by omega)
        have hrest := codeRest s i 3 2048 (s[i].toNat % 16) hi hs ⟨by decide, by decide⟩ (by omega)
        rw [code_3 hi c3]
        refine AFn.plain rfl rfl (AFn.en [4, 5] Tryz.func227 ?_)
        repeat' first | (refine HCode.weaken hrest ?_; exact ⟨rfl, rfl, rfl, rfl, rfl, trivial⟩) | refine .s1 ?_ | (refine .q ?_ ?_ <;> intro hc) | refine A.index_s rfl rfl rfl rfl rfl (by assumption) ?_ | refine A.conv rfl rfl rfl rfl (conv_u8 _) ?_ | refine A.band (n := 15) rfl rfl rfl rfl hbN (by decide) (and15 _) ?_ | fail
      · by_cases c4 : 240 ≤ s[i].toNat ∧ s[i].toNat < 245
        · have f1 : decide ((s[i].toNat : Int) ≥ 194) = true := decide_eq_true (by omega)
          have f2 : decide ((s[i].toNat : Int) < 224) = false := decide_eq_false (by omega)
          have f3 : decide ((s[i].toNat : Int) ≥ 224) = true := decide_eq_true (by omega)
          have f4 : decide ((s[i].toNat : Int) < 240) = false := decide_eq_false (by omega)
          have f5 : decide ((s[i].toNat : Int) ≥ 240) = true := decide_eq_true (by omega)
          have f6 : decide ((s[i].toNat : Int) < 245) = true := decide_eq_true (by omega)
          have hrest := codeRest s i 4 65536 (s[i].toNat % 8) hi hs ⟨by decide, by decide⟩ (by omega)
          rw [code_4 hi c4]
          refine AFn.plain rfl rfl (AFn.en [4, 5] Tryz.func227 ?_)
          repeat' first | (refine HCode.weaken hrest ?_; exact ⟨rfl, rfl, rfl, rfl, rfl, trivial⟩) | refine .s1 ?_ | (refine .q ?_ ?_ <;> intro hc) | refine A.index_s rfl rfl rfl rfl rfl (by assumption) ?_ | refine A.conv rfl rfl rfl rfl (conv_u8 _) ?_ | refine A.band (n := 7) rfl rfl rfl rfl hbN (by decide) (Go.Av.and7 _) ?_ | fail
        · rw [code_0 hi c1 c2 c3 c4]
          refine AFn.plain rfl rfl (AFn.en [4, 5] Tryz.func227 ?_)
          by_cases c5 : s[i].toNat < 194
          · have f1 : decide ((s[i].toNat : Int) ≥ 194) = false := decide_eq_false (by omega)
            have f3 : decide ((s[i].toNat : Int) ≥ 224) = false := decide_eq_false (by omega)
            have f5 : decide ((s[i].toNat : Int) ≥ 240) = false := decide_eq_false (by omega)
            repeat' first | refine .s1 ?_ | (refine .q ?_ ?_ <;> intro hc) | refine A.index_s rfl rfl rfl rfl rfl (by assumption) ?_ | refine A.conv rfl rfl rfl rfl (conv_u8 _) ?_ | fail
            exact Fin.two rfl rfl (Weak.refl _)
          · have f1 : decide ((s[i].toNat : Int) ≥ 194) = true := decide_eq_true (by omega)
            have f2 : decide ((s[i].toNat : Int) < 224) = false := decide_eq_false (by omega)
            have f3 : decide ((s[i].toNat : Int) ≥ 224) = true := decide_eq_true (by omega)
            have f4 : decide ((s[i].toNat : Int) < 240) = false := decide_eq_false (by omega)
            have f5 : decide ((s[i].toNat : Int) ≥ 240) = true := decide_eq_true (by omega)
            have f6 : decide ((s[i].toNat : Int) < 245) = false := decide_eq_false (by omega)
            repeat' first | refine .s1 ?_ | (refine .q ?_ ?_ <;> intro hc) | refine A.index_s rfl rfl rfl rfl rfl (by assumption) ?_ | refine A.conv rfl rfl rfl rfl (conv_u8 _) ?_ | fail
            exact Fin.two rfl rfl (Weak.refl _)
end Go.Proofs.YtmfmdehfbpkgdaaGreatDoor
namespace Go.Proofs.YtmfmdehfbpkgdaaGreatDoor
open Go Go.Av
attribute [local irreducible] HCode AOps PFn AFn Av.Step TStep
theorem rRun (s : Str) (i : Nat) (hs : s.length ≤ 4611686018427387904) (hi : i ≤ 4611686018427387904) : PFn Tryz.prog 226 [.str s, .int .i64 (i : Int)] (.int .i64 (digs (s.drop i))) := by
  refine AFn.plain rfl rfl (AFn.en [4] Tryz.func226 ?_)
  have hle := digs_le (s.drop i)
  rw [List.length_drop] at hle
  refine .go ?_
  refine HCode.forK (s.length - i) (fun k => [(5, .int .i64 k), (0, .str s), (1, .int .i64 (i : Int))]) (fun _ => ⟨[], []⟩) (fun k => digs (s.drop i) = k + digs (s.drop (i + k))) ⟨rfl, rfl, rfl, trivial⟩ rfl (by simp) fun k hk hp => ?_
  by_cases h1 : i + k < s.length
  · have d1 : decide ((i : Int) + (k : Int) < (s.length : Int)) = true := decide_eq_true (by omega)
    have x1 := get_str h1
    have hd := rDigit s[i + k]
    have he := digs_drop h1
    repeat' first | refine .s1 ?_ | (refine .q ?_ ?_ <;> intro hc) | refine A.index_s (j := i + k) rfl rfl rfl rfl rfl (by assumption) ?_ | fail
    · exact ⟨by omega, ⟨rfl, rfl, rfl, trivial⟩, by simp [belowS, AV.low], rfl, rfl, by rw [hp, he, if_pos hc]; simp only [Nat.add_assoc]; omega⟩
    · refine Fin.ret1 rfl (Weak.eq (congrArg (AV.int .i64) ?_))
      rw [hp, he, if_neg (by simp [hc])]; simp
  · have d1 : decide ((i : Int) + (k : Int) < (s.length : Int)) = false := decide_eq_false (by omega)
    refine .go ?_
    refine Fin.ret1 rfl (Weak.eq (congrArg (AV.int .i64) ?_))
    rw [hp, List.drop_eq_nil_of_le (by omega), digs]; simp
def expN (s : Str) (i : Nat) (kd : Int) : Nat × Int := if powN (s.drop i) = 0 then (i, kd) else (i + powN (s.drop i), 4)
theorem powN_at {s : Str} {i : Nat} (h : i < s.length) : powN (s.drop i) = if s[i].toNat = 101 ∨ s[i].toNat = 69 then
    (if i + 1 < s.length ∧ ((s.getD (i + 1) 0).toNat = 43 ∨ (s.getD (i + 1) 0).toNat = 45) then (if digs (s.drop (i + 2)) = 0 then 0 else 2 + digs (s.drop (i + 2))) else (if digs (s.drop (i + 1)) = 0 then 0 else 1 + digs (s.drop (i + 1)))) else 0 := by
  unfold powN expAt
  have e0 : (s.drop i).getD 0 0 = s[i] := by rw [List.drop_eq_getElem_cons h]; rfl
  have e1 : (s.drop i).getD 1 0 = s.getD (i + 1) 0 := by simp [List.getD]
  rw [e0, e1]
  simp only [List.drop_drop, List.length_drop]
  have e2 : (1 < s.length - i) ↔ (i + 1 < s.length) := by omega
  simp only [e2]
theorem powN_end {s : Str} {i : Nat} (h : s.length ≤ i) : powN (s.drop i) = 0 := by
  rw [List.drop_eq_nil_of_le h]; rfl
theorem beq_no {a b : Int} (h : a ≠ b) : (a == b) = false := by simpa using h
theorem beq_yes {a b : Int} (h : a = b) : (a == b) = true := by simpa using h
theorem num3 (s : Str) (i : Nat) (kd : Int) (hs : s.length ≤ 4611686018427387000) (hi : i ≤ s.length) :
    HCode Tryz.prog Tryz.f212.ntmps [] (tailOf 8 (bodyOf Tryz.f212)) (fin [2, 3] (fun e _ => ∃ v, e = .ret v ∧ Weak v (.tup [.int .i64 (expN s i kd).1, .int .i64 (expN s i kd).2])))
      [(0, .str s), (4, .int .i64 (i : Int)), (6, .int .i64 kd)] ⟨[], []⟩ := by
  unfold expN
  by_cases h1 : i < s.length
  · have d1 : decide ((i : Int) < (s.length : Int)) = true := decide_eq_true (by omega)
    have x1 := get_str h1
    have hr1 := rRun s (i + 1) (by omega) (by omega)
    have hr2 := rRun s (i + 2) (by omega) (by omega)
    have hle1 := digs_le (s.drop (i + 1))
    have hle2 := digs_le (s.drop (i + 2))
    rw [List.length_drop] at hle1 hle2
    have hpw := powN_at h1
    by_cases q : s[i].toNat = 101 ∨ s[i].toNat = 69
    · rw [if_pos q] at hpw
      have e1 : ((s[i].toNat : Int) == 101) = decide (s[i].toNat = 101) := by rw [Bool.eq_iff_iff, beq_iff_eq, decide_eq_true_eq]; omega
      have e2 : ((s[i].toNat : Int) == 69) = decide (s[i].toNat = 69) := by rw [Bool.eq_iff_iff, beq_iff_eq, decide_eq_true_eq]; omega
      by_cases h2 : i + 1 < s.length
      · have d2 : decide ((i : Int) + 1 < (s.length : Int)) = true := decide_eq_true (by omega)
        have x2 := get_str h2
        rw [getD_of h2] at hpw
        by_cases q2 : s[i + 1].toNat = 43 ∨ s[i + 1].toNat = 45
        · rw [if_pos ⟨h2, q2⟩] at hpw
          by_cases c3 : digs (s.drop (i + 2)) = 0
          · have d3 : decide (0 < (digs (s.drop (i + 2)) : Int)) = false := decide_eq_false (by omega)
            rw [if_pos c3] at hpw
            rw [if_pos hpw]
            rcases q with q | q <;> rcases q2 with q2 | q2 <;> rw [q] at e1 e2
            all_goals
              have u1 : ((s[i + 1].toNat : Int) == 43) = decide (s[i + 1].toNat = 43) := by rw [Bool.eq_iff_iff, beq_iff_eq, decide_eq_true_eq]; omega
              have u2 : ((s[i + 1].toNat : Int) == 45) = decide (s[i + 1].toNat = 45) := by rw [Bool.eq_iff_iff, beq_iff_eq, decide_eq_true_eq]; omega
              rw [q2] at u1 u2
              repeat' first | refine .s1 ?_ | (refine .q ?_ ?_ <;> intro hc) | refine A.index_s (j := i) rfl rfl rfl rfl rfl (by assumption) ?_ | refine A.index_s (j := i + 1) rfl rfl rfl rfl rfl (by assumption) ?_ | fail
              all_goals first | exact Fin.two rfl rfl (Weak.refl _) | (exfalso; simp_all; done)
          · have d3 : decide (0 < (digs (s.drop (i + 2)) : Int)) = true := decide_eq_true (by omega)
            rw [if_neg c3] at hpw
            rw [if_neg (by omega), hpw]
            rcases q with q | q <;> rcases q2 with q2 | q2 <;> rw [q] at e1 e2
            all_goals
              have u1 : ((s[i + 1].toNat : Int) == 43) = decide (s[i + 1].toNat = 43) := by rw [Bool.eq_iff_iff, beq_iff_eq, decide_eq_true_eq]; omega
              have u2 : ((s[i + 1].toNat : Int) == 45) = decide (s[i + 1].toNat = 45) := by rw [Bool.eq_iff_iff, beq_iff_eq, decide_eq_true_eq]; omega
              rw [q2] at u1 u2
              repeat' first | refine .s1 ?_ | (refine .q ?_ ?_ <;> intro hc) | refine A.index_s (j := i) rfl rfl rfl rfl rfl (by assumption) ?_ | refine A.index_s (j := i + 1) rfl rfl rfl rfl rfl (by assumption) ?_ | fail
              all_goals first | (refine Fin.two rfl rfl (Weak.eq ?_); congr 2; congr 1; omega) | (exfalso; simp_all; done)
        · rw [if_neg (fun h => q2 h.2)] at hpw
          have u1 : ((s[i + 1].toNat : Int) == 43) = false := beq_no (by omega)
          have u2 : ((s[i + 1].toNat : Int) == 45) = false := beq_no (by omega)
          by_cases c3 : digs (s.drop (i + 1)) = 0
          · have d3 : decide (0 < (digs (s.drop (i + 1)) : Int)) = false := decide_eq_false (by omega)
            rw [if_pos c3] at hpw
            rw [if_pos hpw]
            rcases q with q | q <;> rw [q] at e1 e2
            all_goals
              repeat' first | refine .s1 ?_ | (refine .q ?_ ?_ <;> intro hc) | refine A.index_s (j := i) rfl rfl rfl rfl rfl (by assumption) ?_ | refine A.index_s (j := i + 1) rfl rfl rfl rfl rfl (by assumption) ?_ | fail
              all_goals first | exact Fin.two rfl rfl (Weak.refl _) | (exfalso; simp_all; done)
          · have d3 : decide (0 < (digs (s.drop (i + 1)) : Int)) = true := decide_eq_true (by omega)
            rw [if_neg c3] at hpw
            rw [if_neg (by omega), hpw]
            rcases q with q | q <;> rw [q] at e1 e2
            all_goals
              repeat' first | refine .s1 ?_ | (refine .q ?_ ?_ <;> intro hc) | refine A.index_s (j := i) rfl rfl rfl rfl rfl (by assumption) ?_ | refine A.index_s (j := i + 1) rfl rfl rfl rfl rfl (by assumption) ?_ | fail
              all_goals first | (refine Fin.two rfl rfl (Weak.eq ?_); congr 2; congr 1; omega) | (exfalso; simp_all; done)
      · have d2 : decide ((i : Int) + 1 < (s.length : Int)) = false := decide_eq_false (by omega)
        have c3 : digs (s.drop (i + 1)) = 0 := by rw [List.drop_eq_nil_of_le (by omega)]; rfl
        have d3 : decide (0 < (digs (s.drop (i + 1)) : Int)) = false := decide_eq_false (by omega)
        rw [if_neg (fun h => h2 h.1), if_pos c3] at hpw
        rw [if_pos hpw]
        rcases q with q | q <;> rw [q] at e1 e2
        all_goals
          repeat' first | refine .s1 ?_ | (refine .q ?_ ?_ <;> intro hc) | refine A.index_s (j := i) rfl rfl rfl rfl rfl (by assumption) ?_ | fail
          all_goals first | exact Fin.two rfl rfl (Weak.refl _) | (exfalso; simp_all; done)
    · rw [if_neg q] at hpw
      have e1 : ((s[i].toNat : Int) == 101) = false := beq_no (by omega)
      have e2 : ((s[i].toNat : Int) == 69) = false := beq_no (by omega)
      rw [if_pos hpw]
      repeat' first | refine .s1 ?_ | (refine .q ?_ ?_ <;> intro hc) | refine A.index_s (j := i) rfl rfl rfl rfl rfl (by assumption) ?_ | fail
      exact Fin.two rfl rfl (Weak.refl _)
  · have d1 : decide ((i : Int) < (s.length : Int)) = false := decide_eq_false (by omega)
    rw [if_pos (powN_end (by omega))]
    refine .go ?_
    exact Fin.two rfl rfl (Weak.refl _)
theorem pfx_cons (d c : UInt8) (r : Str) : pfx [d] (c :: r) = (c == d) := by rw [Bool.eq_iff_iff]; simp [pfx]
theorem num2 (s : Str) (i : Nat) (hs : s.length ≤ 4611686018427387000) (hi : i ≤ s.length) :
    HCode Tryz.prog Tryz.f212.ntmps [] (tailOf 7 (bodyOf Tryz.f212)) (fin [2, 3] (fun e _ => ∃ v, e = .ret v ∧ Weak v (.tup [.int .i64 (expN s (dotN s i).1 (dotN s i).2).1, .int .i64 (expN s (dotN s i).1 (dotN s i).2).2])))
      [(0, .str s), (4, .int .i64 (i : Int)), (6, .int .i64 3)] ⟨[], []⟩ := by
  unfold dotN
  by_cases h1 : i < s.length
  · have d1 : decide ((i : Int) < (s.length : Int)) = true := decide_eq_true (by omega)
    have x1 := get_str h1
    have hr1 := rRun s (i + 1) (by omega) (by omega)
    have hle1 := digs_le (s.drop (i + 1))
    rw [List.length_drop] at hle1
    have hpx : pfx [46] (s.drop i) = (s[i] == 46) := by
      rw [List.drop_eq_getElem_cons h1, pfx_cons]
    by_cases q : s[i] = 46
    · have e1 : ((s[i].toNat : Int) == 46) = true := by rw [q]; rfl
      rw [hpx, if_pos (by simpa using q)]
      by_cases c3 : digs (s.drop (i + 1)) = 0
      · have d3 : decide (0 < (digs (s.drop (i + 1)) : Int)) = false := decide_eq_false (by omega)
        rw [if_pos c3]
        have hend := num3 s i 3 hs hi
        repeat' first | (refine HCode.weaken hend ?_; exact ⟨rfl, rfl, rfl, trivial⟩) | refine .s1 ?_ | (refine .q ?_ ?_ <;> intro hc) | refine A.index_s (j := i) rfl rfl rfl rfl rfl (by assumption) ?_ | fail
      · have d3 : decide (0 < (digs (s.drop (i + 1)) : Int)) = true := decide_eq_true (by omega)
        rw [if_neg c3]
        have hend := num3 s (i + 1 + digs (s.drop (i + 1))) 4 hs (by omega)
        repeat' first | (refine HCode.weaken hend ?_; exact ⟨rfl, rfl, rfl, trivial⟩) | refine .s1 ?_ | (refine .q ?_ ?_ <;> intro hc) | refine A.index_s (j := i) rfl rfl rfl rfl rfl (by assumption) ?_ | fail
    · have e1 : ((s[i].toNat : Int) == 46) = false := beq_no (fun h => q (UInt8.toNat_inj.1 (by
        have : s[i].toNat = 46 := by omega
        rw [this]; rfl)))
      rw [hpx, if_neg (by simpa using q)]
      have hend := num3 s i 3 hs hi
      repeat' first | (refine HCode.weaken hend ?_; exact ⟨rfl, rfl, rfl, trivial⟩) | refine .s1 ?_ | (refine .q ?_ ?_ <;> intro hc) | refine A.index_s (j := i) rfl rfl rfl rfl rfl (by assumption) ?_ | fail
  · have d1 : decide ((i : Int) < (s.length : Int)) = false := decide_eq_false (by omega)
    have hpx : pfx [46] (s.drop i) = false := by rw [List.drop_eq_nil_of_le (by omega)]; rfl
    rw [hpx, if_neg (by decide)]
    have hend := num3 s i 3 hs hi
    repeat' first | (refine HCode.weaken hend ?_; exact ⟨rfl, rfl, rfl, trivial⟩) | refine .s1 ?_ | (refine .q ?_ ?_ <;> intro hc) | fail
theorem numK_eq (s : Str) : numK s = if wholeN s = 0 then (0, 0) else expN s (dotN s (wholeN s)).1 (dotN s (wholeN s)).2 := by
  unfold numK expN
  split
  · rfl
  · split <;> rfl
theorem rnumeral (s : Str) (hs : s.length ≤ 4611686018427387000) : PFn Tryz.prog 212 [.str s] (.tup [.int .i64 (numK s).1, .int .i64 (numK s).2]) := by
  refine AFn.plain rfl rfl (AFn.en [2, 3] Tryz.func212 ?_)
  rw [numK_eq]
  have hle := wholeN_le s
  by_cases h0 : s.length = 0
  · obtain rfl := List.eq_nil_of_length_eq_zero h0
    have hr := rRun [] 0 (by simp) (by simp)
    have e0 : digs (([] : Str).drop 0) = 0 := rfl
    rw [e0] at hr
    refine .go ?_
    exact Fin.two rfl rfl (Weak.refl _)
  · have h0' : 0 < s.length := by omega
    have d0 : decide ((0 : Int) < (s.length : Int)) = true := decide_eq_true (by omega)
    have x0 := get_str h0'
    have hpx : pfx [45] s = (s[0] == 45) := by
      cases s with
      | nil => simp at h0'
      | cons c s => rw [Bool.eq_iff_iff]; simp [pfx]
    have main : ∀ i0 : Nat, i0 ≤ s.length → wholeN s = wholeAt s i0 → (digs (s.drop i0) = 0 ∨ ((digs (s.drop i0) : Int) ≠ 0 ∧ ∃ h : i0 < s.length, wholeN s = if s[i0] = 48 then i0 + 1 else i0 + digs (s.drop i0))) := fun i0 hi hw => by
      by_cases c : digs (s.drop i0) = 0
      · exact .inl c
      · have hd := digs_le (s.drop i0)
        rw [List.length_drop] at hd
        have hlt : i0 < s.length := by omega
        refine .inr ⟨by omega, hlt, ?_⟩
        rw [hw, wholeAt, if_neg c, get_str hlt]
        simp
    by_cases q : s[0] = 45
    · have e1 : ((s[0].toNat : Int) == 45) = true := by rw [q]; rfl
      have hw : wholeN s = wholeAt s 1 := by rw [wholeN, hpx, if_pos (by simpa using q)]
      have hr := rRun s 1 (by omega) (by omega)
      have hd := digs_le (s.drop 1)
      rw [List.length_drop] at hd
      rcases main 1 (by omega) hw with c | ⟨c, hlt, hw2⟩
      · have e2 : ((digs (s.drop 1) : Int) == 0) = true := beq_yes (by omega)
        rw [hw, wholeAt, if_pos c, if_pos rfl]
        repeat' first | refine .s1 ?_ | (refine .q ?_ ?_ <;> intro hc) | refine A.index_s (j := 0) rfl rfl rfl rfl rfl (by assumption) ?_ | fail
        exact Fin.two rfl rfl (Weak.refl _)
      · have e2 : ((digs (s.drop 1) : Int) == 0) = false := beq_no c
        have x2 := get_str hlt
        by_cases z : s[1] = 48
        · have e3 : ((s[1].toNat : Int) == 48) = true := by rw [z]; rfl
          rw [if_pos z] at hw2
          have hend := num2 s 2 hs (by omega)
          rw [hw2, if_neg (by omega)]
          repeat' first | (refine HCode.weaken hend ?_; exact ⟨rfl, rfl, rfl, trivial⟩) | refine .s1 ?_ | (refine .q ?_ ?_ <;> intro hc) | refine A.index_s (j := 0) rfl rfl rfl rfl rfl (by assumption) ?_ | refine A.index_s (j := 1) rfl rfl rfl rfl rfl (by assumption) ?_ | fail
        · have e3 : ((s[1].toNat : Int) == 48) = false := beq_no (fun h => z (UInt8.toNat_inj.1 (by
            have : s[1].toNat = 48 := by omega
            rw [this]; rfl)))
          rw [if_neg z] at hw2
          have hend := num2 s (1 + digs (s.drop 1)) hs (by omega)
          rw [hw2, if_neg (by omega)]
          repeat' first | (refine HCode.weaken hend ?_; exact ⟨rfl, rfl, rfl, trivial⟩) | refine .s1 ?_ | (refine .q ?_ ?_ <;> intro hc) | refine A.index_s (j := 0) rfl rfl rfl rfl rfl (by assumption) ?_ | refine A.index_s (j := 1) rfl rfl rfl rfl rfl (by assumption) ?_ | fail
    · have e1 : ((s[0].toNat : Int) == 45) = false := beq_no (fun h => q (UInt8.toNat_inj.1 (by
        have : s[0].toNat = 45 := by omega
        rw [this]; rfl)))
      have hw : wholeN s = wholeAt s 0 := by rw [wholeN, hpx, if_neg (by simpa using q)]
      have hr := rRun s 0 (by omega) (by omega)
      have hd := digs_le (s.drop 0)
      rw [List.length_drop] at hd
      rcases main 0 (by omega) hw with c | ⟨c, hlt, hw2⟩
      · have e2 : ((digs (s.drop 0) : Int) == 0) = true := beq_yes (by omega)
        rw [hw, wholeAt, if_pos c, if_pos rfl]
        repeat' first | refine .s1 ?_ | (refine .q ?_ ?_ <;> intro hc) | refine A.index_s (j := 0) rfl rfl rfl rfl rfl (by assumption) ?_ | fail
        exact Fin.two rfl rfl (Weak.refl _)
      · have e2 : ((digs (s.drop 0) : Int) == 0) = false := beq_no c
        by_cases z : s[0] = 48
        · have e3 : ((s[0].toNat : Int) == 48) = true := by rw [z]; rfl
          rw [if_pos z] at hw2
          have hend := num2 s 1 hs (by omega)
          rw [hw2, if_neg (by omega)]
          repeat' first | (refine HCode.weaken hend ?_; exact ⟨rfl, rfl, rfl, trivial⟩) | refine .s1 ?_ | (refine .q ?_ ?_ <;> intro hc) | refine A.index_s (j := 0) rfl rfl rfl rfl rfl (by assumption) ?_ | fail
        · have e3 : ((s[0].toNat : Int) == 48) = false := beq_no (fun h => z (UInt8.toNat_inj.1 (by
            have : s[0].toNat = 48 := by omega
            rw [this]; rfl)))
          rw [if_neg z] at hw2
          have hend := num2 s (0 + digs (s.drop 0)) hs (by omega)
          rw [hw2, if_neg (by omega)]
          repeat' first | (refine HCode.weaken hend ?_; exact ⟨rfl, rfl, rfl, trivial⟩) | refine .s1 ?_ | (refine .q ?_ ?_ <;> intro hc) | refine A.index_s (j := 0) rfl rfl rfl rfl rfl (by assumption) ?_ | fail
theorem rNumber (s : Str) (hs : s.length ≤ 4611686018427387000) : PFn Tryz.prog 188 [.str s] (.int .i64 (numOf s)) := by
  refine AFn.plain rfl rfl (AFn.en [2] Tryz.func188 ?_)
  have hn := rnumeral s hs
  unfold numOf
  by_cases c : (numK s).1 = s.length
  · have e : (((numK s).1 : Int) != (s.length : Int)) = false := by rw [c]; simp
    refine .go ?_
    refine Fin.ret1 rfl (Weak.eq ?_)
    rw [if_pos c]
  · have e : (((numK s).1 : Int) != (s.length : Int)) = true := by simp; omega
    refine .go ?_
    refine Fin.ret1 rfl (Weak.eq ?_)
    rw [if_neg c]
end Go.Proofs.YtmfmdehfbpkgdaaGreatDoor
namespace Go.Av
open Go
section
variable [Globals]
variable {P : Program} {all : Array Oper} {draw : Bool} {K : AX → Slots → St → Prop} {rest : List Oper} {acc : List Tag} {s : Slots} {σ : St} {d : Tmp} {ty : TypeId} {pos : String} {af : Array Edge}
theorem A.neg {x : Operand} {T : TypeId} {k : IntKind} {m r : Int} (h : ev? s x = some (.int k m)) (hr : k.wrap (0 - m) = r) (kk : AOps P all draw K rest (.pure :: acc) ((d, .int k r) :: s) σ) :
    AOps P all draw K (⟨some d, .unOp .neg T x, ty, pos, af, none⟩ :: rest) acc s σ :=
  A.step rfl (tpure fun g w a ho => by
    have h1 := ho x (by simp [Op.operands])
    rw [ev_of h] at h1
    have h1' : a.eval x = .int k m := h1
    refine ⟨.int k r, ?_, rfl⟩
    subst hr
    simp [execOp, h1', Op.unary, Op.intArith]) kk
end
end Go.Av
namespace Go.Proofs.YtmfmdehfbpkgdaaGreatDoor
open Go Go.Av
attribute [local irreducible] HCode AOps PFn AFn Av.Step TStep
theorem good_step {l : Str} (h : l ≠ []) : good l = if (codeL l).2 = 0 then false else good (l.drop (codeL l).2) := by
  unfold good codeL
  rw [Lib.validD_step l h]
  have hw := Lib.decodeL_width l
  by_cases c : (Lib.decodeL l).1 = 65533 ∧ (Lib.decodeL l).2 = 1
  · have e : Lib.decodeL l = (65533, 1) := Prod.ext c.1 c.2
    rw [if_pos c, if_pos e]; rfl
  · have e : Lib.decodeL l ≠ (65533, 1) := fun h => c (by rw [h]; exact ⟨rfl, rfl⟩)
    rw [if_neg c, if_neg e, if_neg (by omega)]
theorem codeL_le {l : Str} (h : l ≠ []) : (codeL l).2 ≤ l.length ∧ (codeL l).1 ≤ 1114111 := by
  unfold codeL
  split
  · simp
  · exact ⟨Lib.decodeL_le l h, Lib.decodeL_rune l⟩
theorem rCodes (s : Str) (hs : s.length ≤ 1048576) : PFn Tryz.prog 213 [.str s] (.tup [.undef, .bool (good s)]) := by
  refine AFn.plain rfl rfl (AFn.en [2, 3] Tryz.func213 ?_)
  refine .go ?_
  change HCode _ _ _ _ _ _ _
  refine HCode.adopt 4 false 1 rfl rfl rfl rfl rfl rfl ?_
  refine HCode.loop (fun n σs σ => ∃ (i : Nat) (xs : List Int), n = s.length - i ∧ i ≤ s.length ∧ xs.length ≤ i ∧ good s = good (s.drop i) ∧ σ = ⟨[], [.len xs.length]⟩ ∧
    σs = [(5, .int .i64 (i : Int)), (4, .slice (xs.map (AV.int .i64)) (.own 0 1)), (0, .str s)])
    (s0 := [(5, .int .i64 ((0 : Nat) : Int)), (4, .slice (([] : List Int).map (AV.int .i64)) (.own 0 1)), (0, .str s)]) ⟨rfl, rfl, rfl, trivial⟩ ⟨0, [], rfl, Nat.zero_le _, Nat.le_refl _, rfl, rfl, rfl⟩ ?_
  rintro n σs σ ⟨i, xs, rfl, hi, hxs, hp, rfl, rfl⟩
  by_cases h1 : i < s.length
  · have d1 : decide ((i : Int) < (s.length : Int)) = true := decide_eq_true (by omega)
    have hne : s.drop i ≠ [] := by intro e; have := congrArg List.length e; rw [List.length_drop] at this; simp at this; omega
    have hc := rCode s i h1 (by omega)
    have hst := good_step hne
    have hcl := codeL_le hne
    rw [List.length_drop] at hcl
    unfold pairV at hc
    by_cases c : (codeL (s.drop i)).2 = 0
    · have e1 : (((codeL (s.drop i)).2 : Int) == 0) = true := beq_yes (by omega)
      refine .go ?_
      refine Fin.two rfl rfl (Weak.tup (WeakL.cons (Weak.undef _) (WeakL.cons (Weak.eq (congrArg AV.bool ?_)) (WeakL.refl _))))
      rw [hp, hst, if_pos c]
    · have e1 : (((codeL (s.drop i)).2 : Int) == 0) = false := beq_no (by omega)
      rw [if_neg c, List.drop_drop] at hst
      repeat' first | refine .s1 ?_ | (refine .q ?_ ?_ <;> intro hc) | refine A.append (n := xs.length) rfl rfl rfl rfl rfl rfl rfl rfl (List.length_map ..) rfl (by dsimp only [List.length_cons, List.length_nil]; omega) (by dsimp only [List.length_cons, List.length_nil]; omega) rfl ?_ | fail
      refine ⟨s.length - (i + (codeL (s.drop i)).2), by omega, [(5, .int .i64 ((i + (codeL (s.drop i)).2 : Nat) : Int)), (4, .slice ((xs ++ [((codeL (s.drop i)).1 : Int)]).map (AV.int .i64)) (.own 0 1)), (0, .str s)],
        ⟨congrArg (AV.int .i64) (by omega), by rw [List.map_append]; rfl, rfl, trivial⟩, by simp [belowS, AV.low, -List.map_append], rfl, i + (codeL (s.drop i)).2, xs ++ [((codeL (s.drop i)).1 : Int)], rfl, by omega, by rw [List.length_append]; simp; omega, by rw [hp, hst], by rw [List.length_append]; rfl, rfl⟩
  · have d1 : decide ((i : Int) < (s.length : Int)) = false := decide_eq_false (by omega)
    refine .go ?_
    refine Fin.two rfl rfl (Weak.tup (WeakL.cons (Weak.undef _) (WeakL.cons (Weak.eq (congrArg AV.bool ?_)) (WeakL.refl _))))
    rw [hp, List.drop_eq_nil_of_le (by omega)]; rfl
theorem rGood (s : Str) (hs : s.length ≤ 1048576) : PFn Tryz.prog 190 [.str s] (.bool (good s)) := by
  have h := rCodes s hs
  refine AFn.plain rfl rfl (AFn.en [2] Tryz.func190 ?_)
  refine .go ?_
  exact Fin.r0
end Go.Proofs.YtmfmdehfbpkgdaaGreatDoor
