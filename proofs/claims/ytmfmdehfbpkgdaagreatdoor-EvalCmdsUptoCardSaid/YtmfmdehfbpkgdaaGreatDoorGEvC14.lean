/-
  Contracts and plain facts for a law, joined.
-/
import Derived.Test.YtmfmdehfbpkgdaaGreatDoorGEvC2
import Derived.Lib.ParseIntBCases
import Derived.Test.YtmfmdehfbpkgdaaGreatDoorGEvC13
import Derived.Test.YtmfmdehfbpkgdaaGreatDoorGEvC6
import Derived.Test.YtmfmdehfbpkgdaaGreatDoorGEvC3
import Derived.Test.YtmfmdehfbpkgdaaGreatDoorAvRen4
set_option maxRecDepth 100000
set_option maxHeartbeats 16000000
set_option linter.unusedVariables false
set_option linter.unusedSimpArgs false
set_option linter.unusedSectionVars false
namespace Go.Proofs.YtmfmdehfbpkgdaaGreatDoor
open Go Go.Av
attribute [local irreducible] HCode AOps PFn AFn Av.Step TStep
def dOf (c : UInt8) : Nat := (c.toNat + 208) % 256
def limI (c : UInt8) : Int := Int.tdiv (-9223372036854775808 + (dOf c : Int)) 10
def foldI : Int → Str → Option Int
  | n, [] => some n
  | n, c :: r => if n < limI c then none else foldI (10 * n - dOf c) r
def negI (s : Str) : Bool := s.head? == some 45
def i64ok (s : Str) : Bool := match foldI 0 (if negI s = true then s.drop 1 else s) with
  | none => false
  | some n => negI s || n != -9223372036854775808
theorem foldI_drop {s : Str} {k : Nat} {n : Int} (h : k < s.length) : foldI n (s.drop k) = if n < limI s[k] then none else foldI (10 * n - dOf s[k]) (s.drop (k + 1)) := by
  rw [List.drop_eq_getElem_cons h, foldI]
theorem dOf_lt (c : UInt8) : dOf c < 256 := Nat.mod_lt _ (by decide)
theorem lim_iff (c : UInt8) (n : Int) : n < limI c ↔ 10 * n < -9223372036854775808 + (dOf c : Int) := by
  have hd := dOf_lt c
  unfold limI
  have e : Int.tdiv (-9223372036854775808 + (dOf c : Int)) 10 = -((9223372036854775808 - (dOf c : Int)) / 10) := by
    rw [show (-9223372036854775808 + (dOf c : Int)) = -(9223372036854775808 - (dOf c : Int)) by omega, Int.neg_tdiv, Int.tdiv_eq_ediv_of_nonneg (by omega)]
  rw [e]
  omega
theorem lim_in (c : UInt8) : -9223372036854775808 ≤ limI c ∧ limI c ≤ 0 := by
  have hd := dOf_lt c
  unfold limI
  have e : Int.tdiv (-9223372036854775808 + (dOf c : Int)) 10 = -((9223372036854775808 - (dOf c : Int)) / 10) := by
    rw [show (-9223372036854775808 + (dOf c : Int)) = -(9223372036854775808 - (dOf c : Int)) by omega, Int.neg_tdiv, Int.tdiv_eq_ediv_of_nonneg (by omega)]
  rw [e]
  omega
theorem lim_wrap (c : UInt8) : IntKind.i64.wrap (Int.tdiv (-9223372036854775808 + (dOf c : Int)) 10) = limI c := IntWalk.i64_in _ (by have := lim_in c; unfold limI at this; omega)
theorem conv_d (c : UInt8) : IntKind.i64.wrap (IntKind.u8.wrap ((c.toNat : Int) - 48)) = (dOf c : Int) := by
  have : ∀ c : Fin 256, IntKind.i64.wrap (IntKind.u8.wrap ((c.val : Int) - 48)) = (((c.val + 208) % 256 : Nat) : Int) := by decide +kernel
  exact this ⟨c.toNat, UInt8.toNat_lt c⟩
attribute [local irreducible] Int.decLt Int.decLe Int.le Int.lt limI in
theorem rInt64 (s : Str) (hs : s.length ≤ 1048576) : PFn Tryz.prog 189 [.str s] (.tup [.undef, .bool (i64ok s)]) := by
  refine AFn.plain rfl rfl (AFn.en [2, 3] Tryz.func189 ?_)
  have loop : ∀ (i0 : Nat) (ng : Bool), i0 ≤ s.length → negI s = ng → (if negI s = true then s.drop 1 else s) = s.drop i0 →
      HCode Tryz.prog Tryz.f189.ntmps [] (tailOf 4 (bodyOf Tryz.f189)) (fin [2, 3] (fun e _ => ∃ v, e = .ret v ∧ Weak v (.tup [.undef, .bool (i64ok s)])))
        [(0, .str s), (4, .int .i64 (i0 : Int)), (5, .bool ng), (6, .int .i64 0)] ⟨[], []⟩ := fun i0 ng hi0 hng hdrop => by
    have hok : i64ok s = match foldI 0 (s.drop i0) with
      | none => false
      | some n => ng || n != -9223372036854775808 := by unfold i64ok; rw [hdrop, hng]
    refine .go ?_
    change HCode _ _ _ _ _ _ _
    refine HCode.loop (fun m σs σ => ∃ (k : Nat) (n : Int), m = s.length - k ∧ k ≤ s.length ∧ -9223372036854775808 ≤ n ∧ n ≤ 0 ∧ foldI 0 (s.drop i0) = foldI n (s.drop k) ∧ σ = ⟨[], []⟩ ∧
      σs = [(4, .int .i64 (k : Int)), (6, .int .i64 n), (0, .str s), (5, .bool ng)])
      (s0 := [(4, .int .i64 (i0 : Int)), (6, .int .i64 0), (0, .str s), (5, .bool ng)]) ⟨rfl, rfl, rfl, rfl, trivial⟩ ⟨i0, 0, rfl, hi0, by omega, by omega, rfl, rfl, rfl⟩ ?_
    rintro m σs σ ⟨k, n, rfl, hk, hn1, hn2, hp, rfl, rfl⟩
    by_cases h1 : k < s.length
    · have d1 : decide ((k : Int) < (s.length : Int)) = true := decide_eq_true (by omega)
      have x1 := get_str h1
      have hd := foldI_drop (n := n) h1
      have hl := lim_iff s[k] n
      have hli := lim_in s[k]
      have hdl := dOf_lt s[k]
      have hw := lim_wrap s[k]
      by_cases c : n < limI s[k]
      · have d2 : decide (n < limI s[k]) = true := decide_eq_true c
        repeat' first | refine .s1 ?_ | (refine .q ?_ ?_ <;> intro hc) | refine .is ?_ | refine A.sub rfl rfl ?_ | refine A.conv rfl rfl rfl rfl (conv_d _) ?_ | refine A.quo rfl rfl (by decide) hw ?_ | fail
        refine Fin.two rfl rfl (Weak.tup (WeakL.cons (Weak.undef _) (WeakL.cons (Weak.eq (congrArg AV.bool ?_)) (WeakL.refl _))))
        rw [hok, hp, hd, if_pos c]
      · have d2 : decide (n < limI s[k]) = false := decide_eq_false c
        have h10 : -9223372036854775808 + (dOf s[k] : Int) ≤ 10 * n := by
          have := mt hl.2 c
          omega
        repeat' first | refine .s1 ?_ | (refine .q ?_ ?_ <;> intro hc) | refine .is ?_ | refine A.sub64 rfl rfl rfl (by omega) ?_ | refine A.sub rfl rfl ?_ | refine A.conv rfl rfl rfl rfl (conv_d _) ?_ | refine A.quo rfl rfl (by decide) hw ?_ | refine A.mul64 rfl rfl rfl (by omega) ?_ | fail
        refine ⟨s.length - (k + 1), by omega, [(4, .int .i64 ((k + 1 : Nat) : Int)), (6, .int .i64 (10 * n - (dOf s[k] : Int))), (0, .str s), (5, .bool ng)], ⟨rfl, rfl, rfl, rfl, trivial⟩, by simp [belowS, AV.low], rfl, k + 1, 10 * n - (dOf s[k] : Int), rfl, by omega, by omega, by omega, by rw [hp, hd, if_neg c], rfl, rfl⟩
    · have d1 : decide ((k : Int) < (s.length : Int)) = false := decide_eq_false (by omega)
      have hend : foldI 0 (s.drop i0) = some n := by rw [hp, List.drop_eq_nil_of_le (by omega), foldI]
      rw [hend] at hok
      cases hg : ng with
      | true =>
        subst hg
        refine .go ?_
        refine Fin.two rfl rfl (Weak.tup (WeakL.cons (Weak.undef _) (WeakL.cons (Weak.eq (congrArg AV.bool ?_)) (WeakL.refl _))))
        rw [hok]; rfl
      | false =>
        subst hg
        simp only [Bool.false_or] at hok
        by_cases c : n = -9223372036854775808
        · have e1 : (n == -9223372036854775808) = true := beq_yes c
          refine .go ?_
          refine Fin.two rfl rfl (Weak.tup (WeakL.cons (Weak.undef _) (WeakL.cons (Weak.eq (congrArg AV.bool ?_)) (WeakL.refl _))))
          rw [hok, c]; rfl
        · have e1 : (n == -9223372036854775808) = false := beq_no c
          repeat' first | refine .s1 ?_ | (refine .q ?_ ?_ <;> intro hc) | refine A.neg rfl (IntWalk.i64_in _ (by omega)) ?_ | fail
          refine Fin.two rfl rfl (Weak.tup (WeakL.cons (Weak.undef _) (WeakL.cons (Weak.eq (congrArg AV.bool ?_)) (WeakL.refl _))))
          rw [hok, bne, e1]; rfl
  by_cases h0 : s = []
  · have hl := loop 0 false (by omega) (by rw [h0]; rfl) (by rw [h0]; rfl)
    subst h0
    repeat' first | (refine HCode.weaken hl ?_; exact ⟨rfl, rfl, rfl, rfl, trivial⟩) | refine .s1 ?_ | (refine .q ?_ ?_ <;> intro hc) | fail
  · have e0 : (s != []) = true := by simpa using h0
    have hlen : 0 < s.length := List.length_pos_iff.2 h0
    have x0 := get_str hlen
    have hh : s.head? = some s[0] := by cases s with
      | nil => exact absurd rfl h0
      | cons c r => rfl
    by_cases q : s[0] = 45
    · have e1 : ((s[0].toNat : Int) == 45) = true := by rw [q]; rfl
      have hng : negI s = true := by unfold negI; rw [hh, q]; rfl
      have hl := loop 1 true (by omega) hng (by rw [if_pos hng])
      repeat' first | (refine HCode.weaken hl ?_; exact ⟨rfl, rfl, rfl, rfl, trivial⟩) | refine .s1 ?_ | (refine .q ?_ ?_ <;> intro hc) | refine A.index_s (j := 0) rfl rfl rfl rfl rfl (by assumption) ?_ | fail
    · have e1 : ((s[0].toNat : Int) == 45) = false := beq_no (fun h => q (UInt8.toNat_inj.1 (by
        have : s[0].toNat = 45 := by omega
        rw [this]; rfl)))
      have hng : negI s = false := by unfold negI; rw [hh]; simpa using q
      have hl := loop 0 false (by omega) hng (by rw [if_neg (by rw [hng]; decide)]; rfl)
      repeat' first | (refine HCode.weaken hl ?_; exact ⟨rfl, rfl, rfl, rfl, trivial⟩) | refine .s1 ?_ | (refine .q ?_ ?_ <;> intro hc) | refine A.index_s (j := 0) rfl rfl rfl rfl rfl (by assumption) ?_ | fail
section
theorem digs_all : ∀ l : Str, digs l = l.length → ∀ c ∈ l, digC c = true
  | [], _, c, h => by simp at h
  | x :: l, h, c, hc => by
    rw [digs] at h
    by_cases e : digC x = true
    · rw [if_pos e] at h
      have h' : digs l = l.length := by simpa using h
      rcases List.mem_cons.1 hc with rfl | hc
      · exact e
      · exact digs_all l h' c hc
    · rw [if_neg e] at h; simp at h
theorem num_whole {s : Str} (h : numOf s = 3) : wholeN s = s.length ∧ wholeN s ≠ 0 := by
  unfold numOf at h
  by_cases c : (numK s).1 = s.length
  · rw [if_pos c] at h
    rw [numK_eq] at c h
    by_cases w : wholeN s = 0
    · rw [if_pos w] at h; simp at h
    · rw [if_neg w] at c h
      refine ⟨?_, w⟩
      unfold expN at c h
      split at c
      · rename_i hp
        rw [if_pos hp] at h
        simp only at c h
        unfold dotN at c h
        split at c
        · rename_i hq
          rw [if_pos hq] at h
          split at c
          · rename_i hz
            exact c
          · rename_i hz
            rw [if_neg hz] at h; simp at h
        · exact c
      · rename_i hp
        rw [if_neg hp] at h; simp at h
  · rw [if_neg c] at h; simp at h
theorem whole_digits {s : Str} {n : Nat} (h : wholeAt s n = s.length) (h0 : s.length ≠ 0) : s.drop n ≠ [] ∧ ∀ c ∈ s.drop n, digC c = true := by
  unfold wholeAt at h
  split at h
  · exact absurd h.symm h0
  · rename_i hd
    have hle := digs_le (s.drop n)
    rw [List.length_drop] at hle
    refine ⟨fun e => ?_, ?_⟩
    · rw [e] at hd; exact hd rfl
    · split at h
      · rename_i hz
        have hn : n < s.length := by omega
        have e1 : s.drop n = [s[n]] := by rw [List.drop_eq_getElem_cons hn, List.drop_eq_nil_of_le (by omega)]
        have e2 : s[n] = 48 := by rw [get_str hn] at hz; exact Option.some.inj hz
        rw [e1, e2]
        intro c hc
        simp at hc; subst hc; decide
      · exact digs_all _ (by rw [List.length_drop]; omega)
def valD (acc : Nat) (l : Str) : Nat := l.foldl (fun a c => a * 10 + (c.toNat - 48)) acc
theorem valD_nil (acc : Nat) : valD acc [] = acc := rfl
theorem valD_cons (acc : Nat) (c : UInt8) (r : Str) : valD acc (c :: r) = valD (acc * 10 + (c.toNat - 48)) r := by unfold valD; rw [List.foldl_cons]
theorem valD_ge (l : Str) (acc : Nat) : acc ≤ valD acc l := by
  induction l generalizing acc with
  | nil => rw [valD_nil]; exact Nat.le_refl _
  | cons c r ih =>
    have := ih (acc * 10 + (c.toNat - 48))
    rw [valD_cons]; omega
theorem digC_iff {c : UInt8} : digC c = true ↔ 48 ≤ c.toNat ∧ c.toNat ≤ 57 := by simp [digC]
theorem dOf_dig {c : UInt8} (h : digC c = true) : dOf c = c.toNat - 48 := by
  have := digC_iff.1 h
  unfold dOf; omega
theorem foldI_digits : ∀ (l : Str) (acc : Nat), (∀ c ∈ l, digC c = true) → acc ≤ 9223372036854775808 → foldI (-(acc : Int)) l = if valD acc l ≤ 9223372036854775808 then some (-(valD acc l : Int)) else none
  | [], acc, _, ha => by rw [foldI, valD_nil, if_pos ha]
  | c :: r, acc, h, ha => by
    have hc := h c (by simp)
    have hd := dOf_dig hc
    have hl := lim_iff c (-(acc : Int))
    have hg := valD_ge r (acc * 10 + (c.toNat - 48))
    rw [foldI, valD_cons]
    by_cases k : -(acc : Int) < limI c
    · rw [if_pos k]
      have := hl.1 k
      rw [if_neg (by omega)]
    · rw [if_neg k]
      have := mt hl.2 k
      have e : 10 * -(acc : Int) - (dOf c : Int) = -((acc * 10 + (c.toNat - 48) : Nat) : Int) := by omega
      rw [e, foldI_digits r _ (fun x hx => h x (List.mem_cons_of_mem _ hx)) (by omega)]
theorem parseM_digits : ∀ (l : Str) (acc : Nat), (∀ c ∈ l, digC c = true) → acc ≤ 18446744073709551615 → Lib.parseUintM 18446744073709551615 acc l = if valD acc l ≤ 18446744073709551615 then .ok (valD acc l) else .range
  | [], acc, _, ha => by rw [Lib.parseUintM, valD_nil, if_pos ha]
  | c :: r, acc, h, ha => by
    have hc := digC_iff.1 (h c (by simp))
    have hg := valD_ge r (acc * 10 + (c.toNat - 48))
    rw [Lib.parseUintM, valD_cons, if_pos hc]
    by_cases k : 1844674407370955162 ≤ acc
    · rw [if_pos k, if_neg (by omega)]
    · rw [if_neg k]
      by_cases k2 : 18446744073709551615 < acc * 10 + (c.toNat - 48)
      · rw [if_pos k2, if_neg (by omega)]
      · rw [if_neg k2, parseM_digits r _ (fun x hx => h x (List.mem_cons_of_mem _ hx)) (by omega)]
theorem parseU_digits {l : Str} (hne : l ≠ []) (h : ∀ c ∈ l, digC c = true) : Lib.parseUintB 64 l = if valD 0 l ≤ 18446744073709551615 then .ok (valD 0 l) else .range := by
  rw [Lib.parseUintB, if_neg hne]
  exact parseM_digits l 0 h (by omega)
theorem int_ok {s : Str} (h : numOf s = 3) : i64ok s = intIs s := by
  obtain ⟨hw, h0⟩ := num_whole h
  cases s with
  | nil => simp at hw; exact absurd hw h0
  | cons c r =>
    rw [wholeN, pfx_cons] at hw
    by_cases q : c = 45
    · subst q
      rw [if_pos (by decide)] at hw
      obtain ⟨hne, hd⟩ := whole_digits hw (by simp)
      have hne' : r ≠ [] := hne
      have hd' : ∀ x ∈ r, digC x = true := hd
      have hng : negI (45 :: r) = true := rfl
      have hf := foldI_digits r 0 hd' (by omega)
      have hf' : foldI 0 r = if valD 0 r ≤ 9223372036854775808 then some (-(valD 0 r : Int)) else none := hf
      unfold i64ok intIs
      rw [hng, if_pos rfl, Lib.parseIntB_minus, parseU_digits hne' hd']
      show (match foldI 0 r with | none => false | some n => true || n != -9223372036854775808) = _
      rw [hf']
      by_cases k : valD 0 r ≤ 9223372036854775808
      · rw [if_pos k, if_pos (by omega)]
        unfold Lib.signedC
        simp only [Nat.reduceSub, Nat.reducePow]
        rw [if_neg (by omega)]; rfl
      · rw [if_neg k]
        by_cases k2 : valD 0 r ≤ 18446744073709551615
        · rw [if_pos k2]
          unfold Lib.signedC
          simp only [Nat.reduceSub, Nat.reducePow]
          rw [if_pos (by omega)]
        · rw [if_neg k2]; rfl
    · have hq : (c == 45) = false := by simpa using q
      rw [hq, if_neg (by decide)] at hw
      obtain ⟨hne, hd⟩ := whole_digits hw (by simp)
      have hne' : (c :: r) ≠ [] := by simp
      have hd' : ∀ x ∈ (c :: r), digC x = true := hd
      have hc := digC_iff.1 (hd' c (by simp))
      have hng : negI (c :: r) = false := by unfold negI; simpa using q
      have hf := foldI_digits (c :: r) 0 hd' (by omega)
      have hf' : foldI 0 (c :: r) = if valD 0 (c :: r) ≤ 9223372036854775808 then some (-(valD 0 (c :: r) : Int)) else none := hf
      unfold i64ok intIs
      rw [hng, if_neg (by decide), Lib.parseIntB_plain 64 c r (by omega) (by omega), parseU_digits hne' hd', hf']
      generalize valD 0 (c :: r) = V
      by_cases k : V ≤ 9223372036854775808
      · rw [if_pos k, if_pos (by omega)]
        unfold Lib.signlessC
        simp only [Nat.reduceSub, Nat.reducePow]
        by_cases k3 : 9223372036854775808 ≤ V
        · rw [if_pos k3]
          have : (V : Int) = 9223372036854775808 := by omega
          rw [this]; rfl
        · rw [if_neg k3]
          simp; omega
      · rw [if_neg k]
        by_cases k2 : V ≤ 18446744073709551615
        · rw [if_pos k2]
          unfold Lib.signlessC
          simp only [Nat.reduceSub, Nat.reducePow]
          rw [if_pos (by omega)]
        · rw [if_neg k2]; rfl
theorem num_cases (s : Str) : numOf s = 0 ∨ numOf s = 3 ∨ numOf s = 4 := by
  unfold numOf
  split
  · rw [numK_eq]
    split
    · exact .inl rfl
    · unfold expN
      split
      · unfold dotN
        split
        · split
          · exact .inr (.inl rfl)
          · exact .inr (.inr rfl)
        · exact .inr (.inl rfl)
      · exact .inr (.inr rfl)
  · exact .inl rfl
theorem num_nil : numOf [] = 0 := rfl
theorem numB_eq (s : Str) : numB s = if s = [] ∨ numOf s = 0 then false else (numOf s == 4 || !i64ok s) := by
  unfold numB
  by_cases h0 : s = []
  · subst h0; rw [if_pos (.inl rfl), num_nil]; rfl
  · rcases num_cases s with h | h | h
    · rw [if_pos (.inr h), h]; rfl
    · rw [if_neg (fun e => e.elim h0 (fun e0 => by omega)), int_ok h, h]; simp
    · rw [if_neg (fun e => e.elim h0 (fun e0 => by omega)), h]; simp
end
end Go.Proofs.YtmfmdehfbpkgdaaGreatDoor
namespace Go.Proofs.YtmfmdehfbpkgdaaGreatDoor
open Go Go.Av
attribute [local irreducible] HCode AOps PFn AFn Av.Step TStep
theorem rgv0 (v : Val) (hv : v.size ≤ 1048576) (k : v.kind = 0) (dl : decide ((0 : Int) < (v.lv.length : Int)) = !decide (v.l.length = 0)) (dm : decide ((0 : Int) < (v.mv.length : Int)) = !decide (v.m.length = 0)) : PFn Tryz.prog 166 [v.enc] (.bool (allV good v)) := by
  have hsz := v.size_eq
  have g4 := rGood v.s (by omega)
  have g5 := rName v.s (by omega)
  have g3 := rNumber v.s (by omega)
  have gi := rInt64 v.s (by omega)
  have u0 : (v.kind == 0) = true := by rw [k]; rfl
  have u1 : (v.kind == 1) = false := by rw [k]; rfl
  have u2 : (v.kind == 2) = false := by rw [k]; rfl
  have u3 : (v.kind == 3) = false := by rw [k]; rfl
  have u4 : (v.kind == 4) = false := by rw [k]; rfl
  have u5 : (v.kind == 5) = false := by rw [k]; rfl
  have u6 : (v.kind == 6) = false := by rw [k]; rfl
  have u7 : (v.kind == 7) = false := by rw [k]; rfl
  have u8 : (v.kind == 8) = false := by rw [k]; rfl
  have w1 : (v.kind != 1) = true := by rw [k]; rfl
  have w2 : (v.kind != 2) = true := by rw [k]; rfl
  have w6 : (v.kind != 6) = true := by rw [k]; rfl
  have w7 : (v.kind != 7) = true := by rw [k]; rfl
  refine AFn.plain rfl (by simp [AV.closedL, Val.closed]) (AFn.en [2] Tryz.func166 ?_)
  rw [allV_eq, if_neg (by omega), if_neg (by omega)]
  unfold singleB
  rw [if_pos k]
  repeat' first | refine .br ?_ | refine .s1 ?_ | (refine .q ?_ ?_ <;> intro hc) | fail
  all_goals
    refine Fin.rb ?_
    first | (simp_all; done) | (simp_all [bne]; done)
theorem rgv1 (v : Val) (hv : v.size ≤ 1048576) (k : v.kind = 1) (dl : decide ((0 : Int) < (v.lv.length : Int)) = !decide (v.l.length = 0)) (dm : decide ((0 : Int) < (v.mv.length : Int)) = !decide (v.m.length = 0)) : PFn Tryz.prog 166 [v.enc] (.bool (allV good v)) := by
  have hsz := v.size_eq
  have g4 := rGood v.s (by omega)
  have g5 := rName v.s (by omega)
  have g3 := rNumber v.s (by omega)
  have gi := rInt64 v.s (by omega)
  have u0 : (v.kind == 0) = false := by rw [k]; rfl
  have u1 : (v.kind == 1) = true := by rw [k]; rfl
  have u2 : (v.kind == 2) = false := by rw [k]; rfl
  have u3 : (v.kind == 3) = false := by rw [k]; rfl
  have u4 : (v.kind == 4) = false := by rw [k]; rfl
  have u5 : (v.kind == 5) = false := by rw [k]; rfl
  have u6 : (v.kind == 6) = false := by rw [k]; rfl
  have u7 : (v.kind == 7) = false := by rw [k]; rfl
  have u8 : (v.kind == 8) = false := by rw [k]; rfl
  have w1 : (v.kind != 1) = false := by rw [k]; rfl
  have w2 : (v.kind != 2) = true := by rw [k]; rfl
  have w6 : (v.kind != 6) = true := by rw [k]; rfl
  have w7 : (v.kind != 7) = true := by rw [k]; rfl
  refine AFn.plain rfl (by simp [AV.closedL, Val.closed]) (AFn.en [2] Tryz.func166 ?_)
  rw [allV_eq, if_neg (by omega), if_neg (by omega)]
  unfold singleB
  rw [if_neg (show ¬ v.kind = 0 by omega)]
  rw [if_pos k]
  repeat' first | refine .br ?_ | refine .s1 ?_ | (refine .q ?_ ?_ <;> intro hc) | fail
  all_goals
    refine Fin.rb ?_
    first | (simp_all; done) | (simp_all [bne]; done)
theorem rgv2 (v : Val) (hv : v.size ≤ 1048576) (k : v.kind = 2) (dl : decide ((0 : Int) < (v.lv.length : Int)) = !decide (v.l.length = 0)) (dm : decide ((0 : Int) < (v.mv.length : Int)) = !decide (v.m.length = 0)) : PFn Tryz.prog 166 [v.enc] (.bool (allV good v)) := by
  have hsz := v.size_eq
  have g4 := rGood v.s (by omega)
  have g5 := rName v.s (by omega)
  have g3 := rNumber v.s (by omega)
  have gi := rInt64 v.s (by omega)
  have u0 : (v.kind == 0) = false := by rw [k]; rfl
  have u1 : (v.kind == 1) = false := by rw [k]; rfl
  have u2 : (v.kind == 2) = true := by rw [k]; rfl
  have u3 : (v.kind == 3) = false := by rw [k]; rfl
  have u4 : (v.kind == 4) = false := by rw [k]; rfl
  have u5 : (v.kind == 5) = false := by rw [k]; rfl
  have u6 : (v.kind == 6) = false := by rw [k]; rfl
  have u7 : (v.kind == 7) = false := by rw [k]; rfl
  have u8 : (v.kind == 8) = false := by rw [k]; rfl
  have w1 : (v.kind != 1) = true := by rw [k]; rfl
  have w2 : (v.kind != 2) = false := by rw [k]; rfl
  have w6 : (v.kind != 6) = true := by rw [k]; rfl
  have w7 : (v.kind != 7) = true := by rw [k]; rfl
  refine AFn.plain rfl (by simp [AV.closedL, Val.closed]) (AFn.en [2] Tryz.func166 ?_)
  rw [allV_eq, if_neg (by omega), if_neg (by omega)]
  unfold singleB
  rw [if_neg (show ¬ v.kind = 0 by omega)]
  rw [if_neg (show ¬ v.kind = 1 by omega)]
  rw [if_pos k]
  repeat' first | refine .br ?_ | refine .s1 ?_ | (refine .q ?_ ?_ <;> intro hc) | fail
  all_goals
    refine Fin.rb ?_
    first | (simp_all; done) | (simp_all [bne]; done)
theorem rgv3 (v : Val) (hv : v.size ≤ 1048576) (k : v.kind = 3) (dl : decide ((0 : Int) < (v.lv.length : Int)) = !decide (v.l.length = 0)) (dm : decide ((0 : Int) < (v.mv.length : Int)) = !decide (v.m.length = 0)) : PFn Tryz.prog 166 [v.enc] (.bool (allV good v)) := by
  have hsz := v.size_eq
  have g4 := rGood v.s (by omega)
  have g5 := rName v.s (by omega)
  have g3 := rNumber v.s (by omega)
  have gi := rInt64 v.s (by omega)
  have u0 : (v.kind == 0) = false := by rw [k]; rfl
  have u1 : (v.kind == 1) = false := by rw [k]; rfl
  have u2 : (v.kind == 2) = false := by rw [k]; rfl
  have u3 : (v.kind == 3) = true := by rw [k]; rfl
  have u4 : (v.kind == 4) = false := by rw [k]; rfl
  have u5 : (v.kind == 5) = false := by rw [k]; rfl
  have u6 : (v.kind == 6) = false := by rw [k]; rfl
  have u7 : (v.kind == 7) = false := by rw [k]; rfl
  have u8 : (v.kind == 8) = false := by rw [k]; rfl
  have w1 : (v.kind != 1) = true := by rw [k]; rfl
  have w2 : (v.kind != 2) = true := by rw [k]; rfl
  have w6 : (v.kind != 6) = true := by rw [k]; rfl
  have w7 : (v.kind != 7) = true := by rw [k]; rfl
  refine AFn.plain rfl (by simp [AV.closedL, Val.closed]) (AFn.en [2] Tryz.func166 ?_)
  rw [allV_eq, if_neg (by omega), if_neg (by omega)]
  unfold singleB
  rw [if_neg (show ¬ v.kind = 0 by omega)]
  rw [if_neg (show ¬ v.kind = 1 by omega)]
  rw [if_neg (show ¬ v.kind = 2 by omega)]
  rw [if_pos k]
  rw [numB_eq]
  repeat' first | refine .br ?_ | refine .s1 ?_ | (refine .q ?_ ?_ <;> intro hc) | fail
  all_goals
    refine Fin.rb ?_
    first | (simp_all; done) | (simp_all [bne]; done)
theorem rgv4 (v : Val) (hv : v.size ≤ 1048576) (k : v.kind = 4) (dl : decide ((0 : Int) < (v.lv.length : Int)) = !decide (v.l.length = 0)) (dm : decide ((0 : Int) < (v.mv.length : Int)) = !decide (v.m.length = 0)) : PFn Tryz.prog 166 [v.enc] (.bool (allV good v)) := by
  have hsz := v.size_eq
  have g4 := rGood v.s (by omega)
  have g5 := rName v.s (by omega)
  have g3 := rNumber v.s (by omega)
  have gi := rInt64 v.s (by omega)
  have u0 : (v.kind == 0) = false := by rw [k]; rfl
  have u1 : (v.kind == 1) = false := by rw [k]; rfl
  have u2 : (v.kind == 2) = false := by rw [k]; rfl
  have u3 : (v.kind == 3) = false := by rw [k]; rfl
  have u4 : (v.kind == 4) = true := by rw [k]; rfl
  have u5 : (v.kind == 5) = false := by rw [k]; rfl
  have u6 : (v.kind == 6) = false := by rw [k]; rfl
  have u7 : (v.kind == 7) = false := by rw [k]; rfl
  have u8 : (v.kind == 8) = false := by rw [k]; rfl
  have w1 : (v.kind != 1) = true := by rw [k]; rfl
  have w2 : (v.kind != 2) = true := by rw [k]; rfl
  have w6 : (v.kind != 6) = true := by rw [k]; rfl
  have w7 : (v.kind != 7) = true := by rw [k]; rfl
  refine AFn.plain rfl (by simp [AV.closedL, Val.closed]) (AFn.en [2] Tryz.func166 ?_)
  rw [allV_eq, if_neg (by omega), if_neg (by omega)]
  unfold singleB
  rw [if_neg (show ¬ v.kind = 0 by omega)]
  rw [if_neg (show ¬ v.kind = 1 by omega)]
  rw [if_neg (show ¬ v.kind = 2 by omega)]
  rw [if_neg (show ¬ v.kind = 3 by omega)]
  rw [if_pos k]
  repeat' first | refine .br ?_ | refine .s1 ?_ | (refine .q ?_ ?_ <;> intro hc) | fail
  all_goals
    refine Fin.rb ?_
    first | (simp_all; done) | (simp_all [bne]; done)
theorem rgv5 (v : Val) (hv : v.size ≤ 1048576) (k : v.kind = 5) (dl : decide ((0 : Int) < (v.lv.length : Int)) = !decide (v.l.length = 0)) (dm : decide ((0 : Int) < (v.mv.length : Int)) = !decide (v.m.length = 0)) : PFn Tryz.prog 166 [v.enc] (.bool (allV good v)) := by
  have hsz := v.size_eq
  have g4 := rGood v.s (by omega)
  have g5 := rName v.s (by omega)
  have g3 := rNumber v.s (by omega)
  have gi := rInt64 v.s (by omega)
  have u0 : (v.kind == 0) = false := by rw [k]; rfl
  have u1 : (v.kind == 1) = false := by rw [k]; rfl
  have u2 : (v.kind == 2) = false := by rw [k]; rfl
  have u3 : (v.kind == 3) = false := by rw [k]; rfl
  have u4 : (v.kind == 4) = false := by rw [k]; rfl
  have u5 : (v.kind == 5) = true := by rw [k]; rfl
  have u6 : (v.kind == 6) = false := by rw [k]; rfl
  have u7 : (v.kind == 7) = false := by rw [k]; rfl
  have u8 : (v.kind == 8) = false := by rw [k]; rfl
  have w1 : (v.kind != 1) = true := by rw [k]; rfl
  have w2 : (v.kind != 2) = true := by rw [k]; rfl
  have w6 : (v.kind != 6) = true := by rw [k]; rfl
  have w7 : (v.kind != 7) = true := by rw [k]; rfl
  refine AFn.plain rfl (by simp [AV.closedL, Val.closed]) (AFn.en [2] Tryz.func166 ?_)
  rw [allV_eq, if_neg (by omega), if_neg (by omega)]
  unfold singleB
  rw [if_neg (show ¬ v.kind = 0 by omega)]
  rw [if_neg (show ¬ v.kind = 1 by omega)]
  rw [if_neg (show ¬ v.kind = 2 by omega)]
  rw [if_neg (show ¬ v.kind = 3 by omega)]
  rw [if_neg (show ¬ v.kind = 4 by omega)]
  rw [if_pos k]
  unfold resB
  repeat' first | refine .br ?_ | refine .s1 ?_ | (refine .q ?_ ?_ <;> intro hc) | fail
  all_goals
    refine Fin.rb ?_
    first | (simp_all; done) | (simp_all [bne]; done)
theorem rgv8 (v : Val) (hv : v.size ≤ 1048576) (k : v.kind = 8) (dl : decide ((0 : Int) < (v.lv.length : Int)) = !decide (v.l.length = 0)) (dm : decide ((0 : Int) < (v.mv.length : Int)) = !decide (v.m.length = 0)) : PFn Tryz.prog 166 [v.enc] (.bool (allV good v)) := by
  have hsz := v.size_eq
  have g4 := rGood v.s (by omega)
  have g5 := rName v.s (by omega)
  have g3 := rNumber v.s (by omega)
  have gi := rInt64 v.s (by omega)
  have u0 : (v.kind == 0) = false := by rw [k]; rfl
  have u1 : (v.kind == 1) = false := by rw [k]; rfl
  have u2 : (v.kind == 2) = false := by rw [k]; rfl
  have u3 : (v.kind == 3) = false := by rw [k]; rfl
  have u4 : (v.kind == 4) = false := by rw [k]; rfl
  have u5 : (v.kind == 5) = false := by rw [k]; rfl
  have u6 : (v.kind == 6) = false := by rw [k]; rfl
  have u7 : (v.kind == 7) = false := by rw [k]; rfl
  have u8 : (v.kind == 8) = true := by rw [k]; rfl
  have w1 : (v.kind != 1) = true := by rw [k]; rfl
  have w2 : (v.kind != 2) = true := by rw [k]; rfl
  have w6 : (v.kind != 6) = true := by rw [k]; rfl
  have w7 : (v.kind != 7) = true := by rw [k]; rfl
  refine AFn.plain rfl (by simp [AV.closedL, Val.closed]) (AFn.en [2] Tryz.func166 ?_)
  rw [allV_eq, if_neg (by omega), if_neg (by omega)]
  unfold singleB
  rw [if_neg (show ¬ v.kind = 0 by omega)]
  rw [if_neg (show ¬ v.kind = 1 by omega)]
  rw [if_neg (show ¬ v.kind = 2 by omega)]
  rw [if_neg (show ¬ v.kind = 3 by omega)]
  rw [if_neg (show ¬ v.kind = 4 by omega)]
  rw [if_neg (show ¬ v.kind = 5 by omega)]
  rw [if_pos k]
  repeat' first | refine .br ?_ | refine .s1 ?_ | (refine .q ?_ ?_ <;> intro hc) | fail
  all_goals
    refine Fin.rb ?_
    first | (simp_all; done) | (simp_all [bne]; done)
theorem rgvX (v : Val) (k : ¬ (v.kind = 0 ∨ v.kind = 1 ∨ v.kind = 2 ∨ v.kind = 3 ∨ v.kind = 4 ∨ v.kind = 5 ∨ v.kind = 6 ∨ v.kind = 7 ∨ v.kind = 8)) (dl : decide ((0 : Int) < (v.lv.length : Int)) = !decide (v.l.length = 0)) (dm : decide ((0 : Int) < (v.mv.length : Int)) = !decide (v.m.length = 0)) : PFn Tryz.prog 166 [v.enc] (.bool (allV good v)) := by
  simp only [not_or] at k
  obtain ⟨k0, k1, k2, k3, k4, k5, k6, k7, k8⟩ := k
  have u0 := beq_no k0
  have u1 := beq_no k1
  have u2 := beq_no k2
  have u3 := beq_no k3
  have u4 := beq_no k4
  have u5 := beq_no k5
  have u6 := beq_no k6
  have u7 := beq_no k7
  have u8 := beq_no k8
  have w1 : (v.kind != 1) = true := by simp [k1]
  have w2 : (v.kind != 2) = true := by simp [k2]
  have w6 : (v.kind != 6) = true := by simp [k6]
  have w7 : (v.kind != 7) = true := by simp [k7]
  refine AFn.plain rfl (by simp [AV.closedL, Val.closed]) (AFn.en [2] Tryz.func166 ?_)
  rw [allV_eq, if_neg k6, if_neg k7]
  unfold singleB
  rw [if_neg k0, if_neg k1, if_neg k2, if_neg k3, if_neg k4, if_neg k5, if_neg k8, Bool.and_false]
  repeat' first | refine .br ?_ | refine .s1 ?_ | (refine .q ?_ ?_ <;> intro hc) | fail
  all_goals exact Fin.r0
theorem rgv6 (v : Val) (hv : v.size ≤ 1048576) (k : v.kind = 6) (dl : decide ((0 : Int) < (v.lv.length : Int)) = !decide (v.l.length = 0)) (dm : decide ((0 : Int) < (v.mv.length : Int)) = !decide (v.m.length = 0)) (ih : ∀ x ∈ v.l, PFn Tryz.prog 166 [x.enc] (.bool (allV good x))) : PFn Tryz.prog 166 [v.enc] (.bool (allV good v)) := by
  have hsz := v.size_eq
  have hll := v.l_len
  have hml := v.m_len
  have u0 : (v.kind == 0) = false := by rw [k]; rfl
  have u1 : (v.kind == 1) = false := by rw [k]; rfl
  have u2 : (v.kind == 2) = false := by rw [k]; rfl
  have u3 : (v.kind == 3) = false := by rw [k]; rfl
  have u4 : (v.kind == 4) = false := by rw [k]; rfl
  have u5 : (v.kind == 5) = false := by rw [k]; rfl
  have u6 : (v.kind == 6) = true := by rw [k]; rfl
  have u7 : (v.kind == 7) = false := by rw [k]; rfl
  have u8 : (v.kind == 8) = false := by rw [k]; rfl
  have w1 : (v.kind != 1) = true := by rw [k]; rfl
  have w2 : (v.kind != 2) = true := by rw [k]; rfl
  have w6 : (v.kind != 6) = false := by rw [k]; rfl
  have w7 : (v.kind != 7) = true := by rw [k]; rfl
  refine AFn.plain rfl (by simp [AV.closedL, Val.closed]) (AFn.en [2] Tryz.func166 ?_)
  rw [allV_eq, if_pos k]
  by_cases cn : v.n = 0
  · have en : (v.n != 0) = false := by simp [cn]
    by_cases cm : v.m.length = 0
    · have em : decide ((0 : Int) < (v.mv.length : Int)) = false := by rw [dm]; simp [cm]
      by_cases cs : v.s = []
      · have es : (v.s != []) = false := by simp [cs]
        have hall : (allL good v.l && (v.n == 0 && v.s == [] && decide (v.m.length = 0))) = allL good v.l := by simp [cn, cm, cs]
        rw [hall]
        refine .gob ?_
        refine HCode.forK v.l.length (fun j => [(6, .int .i64 j), (1, .rptr v.enc)]) (fun _ => ⟨[], []⟩) (fun j => allL good v.l = allL good (v.l.drop j)) ⟨rfl, rfl, trivial⟩ rfl rfl fun j hj hp => ?_
        by_cases h1 : j < v.l.length
        · have d1 : decide ((j : Int) < (v.lv.length : Int)) = true := by rw [v.lv_len]; simp [h1]
          have x1 := Val.lv_get h1
          have hd := allL_drop good h1
          have hc1 := ih v.l[j] (List.getElem_mem h1)
          repeat' first | refine .s1 ?_ | (refine .q ?_ ?_ <;> intro hc) | fail
          all_goals first | (refine Fin.rb ?_; rw [hp, hd]; simp_all; done) | (exact ⟨h1, ⟨rfl, rfl, trivial⟩, by simp [belowS, AV.low], rfl, rfl, by rw [hp, hd]; simp_all⟩)
        · have d1 : decide ((j : Int) < (v.lv.length : Int)) = false := by rw [v.lv_len]; simp; omega
          refine .go ?_
          refine Fin.rb ?_
          rw [hp, List.drop_eq_nil_of_le (by omega), allL]
      · have es : (v.s != []) = true := by simp [cs]
        refine .gob ?_
        refine Fin.rb ?_
        simp [cs]
    · have em : decide ((0 : Int) < (v.mv.length : Int)) = true := by rw [dm]; simp [cm]
      refine .gob ?_
      refine Fin.rb ?_
      simp [cm]
  · have en : (v.n != 0) = true := by simp [cn]
    refine .gob ?_
    refine Fin.rb ?_
    simp [cn]
theorem rgv7 (v : Val) (hv : v.size ≤ 1048576) (k : v.kind = 7) (dl : decide ((0 : Int) < (v.lv.length : Int)) = !decide (v.l.length = 0)) (dm : decide ((0 : Int) < (v.mv.length : Int)) = !decide (v.m.length = 0)) (ih : ∀ x ∈ v.m, PFn Tryz.prog 166 [x.v.enc] (.bool (allV good x.v))) : PFn Tryz.prog 166 [v.enc] (.bool (allV good v)) := by
  have hsz := v.size_eq
  have hll := v.l_len
  have hml := v.m_len
  have u0 : (v.kind == 0) = false := by rw [k]; rfl
  have u1 : (v.kind == 1) = false := by rw [k]; rfl
  have u2 : (v.kind == 2) = false := by rw [k]; rfl
  have u3 : (v.kind == 3) = false := by rw [k]; rfl
  have u4 : (v.kind == 4) = false := by rw [k]; rfl
  have u5 : (v.kind == 5) = false := by rw [k]; rfl
  have u6 : (v.kind == 6) = false := by rw [k]; rfl
  have u7 : (v.kind == 7) = true := by rw [k]; rfl
  have u8 : (v.kind == 8) = false := by rw [k]; rfl
  have w1 : (v.kind != 1) = true := by rw [k]; rfl
  have w2 : (v.kind != 2) = true := by rw [k]; rfl
  have w6 : (v.kind != 6) = true := by rw [k]; rfl
  have w7 : (v.kind != 7) = false := by rw [k]; rfl
  refine AFn.plain rfl (by simp [AV.closedL, Val.closed]) (AFn.en [2] Tryz.func166 ?_)
  rw [allV_eq, if_neg (by omega), if_pos k]
  by_cases cn : v.n = 0
  · have en : (v.n != 0) = false := by simp [cn]
    by_cases cm : v.l.length = 0
    · have em : decide ((0 : Int) < (v.lv.length : Int)) = false := by rw [dl]; simp [cm]
      by_cases cs : v.s = []
      · have es : (v.s != []) = false := by simp [cs]
        have hall : (allM good v.m && (v.n == 0 && v.s == [] && decide (v.l.length = 0))) = allM good v.m := by simp [cn, cm, cs]
        rw [hall]
        refine .gob ?_
        refine HCode.forK v.m.length (fun j => [(7, .int .i64 j), (1, .rptr v.enc)]) (fun _ => ⟨[], []⟩) (fun j => allM good v.m = allM good (v.m.drop j)) ⟨rfl, rfl, trivial⟩ rfl rfl fun j hj hp => ?_
        by_cases h1 : j < v.m.length
        · have d1 : decide ((j : Int) < (v.mv.length : Int)) = true := by rw [v.mv_len]; simp [h1]
          have x1 := Val.mv_get h1
          have hd := allM_drop good h1
          have hc1 := ih v.m[j] (List.getElem_mem h1)
          have hg1 := rGood v.m[j].name (by have := Mem.name_len h1; omega)
          repeat' first | refine .s1 ?_ | (refine .q ?_ ?_ <;> intro hc) | fail
          all_goals first | (refine Fin.rb ?_; rw [hp, hd]; simp_all; done) | (exact ⟨h1, ⟨rfl, rfl, trivial⟩, by simp [belowS, AV.low], rfl, rfl, by rw [hp, hd]; simp_all⟩)
        · have d1 : decide ((j : Int) < (v.mv.length : Int)) = false := by rw [v.mv_len]; simp; omega
          refine .go ?_
          refine Fin.rb ?_
          rw [hp, List.drop_eq_nil_of_le (by omega), allM]
      · have es : (v.s != []) = true := by simp [cs]
        refine .gob ?_
        refine Fin.rb ?_
        simp [cs]
    · have em : decide ((0 : Int) < (v.lv.length : Int)) = true := by rw [dl]; simp [cm]
      refine .gob ?_
      refine Fin.rb ?_
      simp [cm]
  · have en : (v.n != 0) = true := by simp [cn]
    refine .gob ?_
    refine Fin.rb ?_
    simp [cn]
theorem rGoodValue : ∀ N : Nat, N ≤ 1048576 → ∀ v : Val, v.size ≤ N → PFn Tryz.prog 166 [v.enc] (.bool (allV good v))
  | 0, _, v, hv => absurd hv (by have := v.size_pos; omega)
  | N + 1, hN, v, hv => by
    have ih := rGoodValue N (by omega)
    have dl : decide ((0 : Int) < (v.lv.length : Int)) = !decide (v.l.length = 0) := by rw [v.lv_len, Bool.eq_iff_iff]; simp only [decide_eq_true_eq, Bool.not_eq_true', decide_eq_false_iff_not]; omega
    have dm : decide ((0 : Int) < (v.mv.length : Int)) = !decide (v.m.length = 0) := by rw [v.mv_len, Bool.eq_iff_iff]; simp only [decide_eq_true_eq, Bool.not_eq_true', decide_eq_false_iff_not]; omega
    by_cases k0 : v.kind = 0
    · exact rgv0 v (by omega) k0 dl dm
    by_cases k1 : v.kind = 1
    · exact rgv1 v (by omega) k1 dl dm
    by_cases k2 : v.kind = 2
    · exact rgv2 v (by omega) k2 dl dm
    by_cases k3 : v.kind = 3
    · exact rgv3 v (by omega) k3 dl dm
    by_cases k4 : v.kind = 4
    · exact rgv4 v (by omega) k4 dl dm
    by_cases k5 : v.kind = 5
    · exact rgv5 v (by omega) k5 dl dm
    by_cases k8 : v.kind = 8
    · exact rgv8 v (by omega) k8 dl dm
    by_cases k6 : v.kind = 6
    · exact rgv6 v (by omega) k6 dl dm (fun x hx => ih x (by
        obtain ⟨j, hj, rfl⟩ := List.getElem_of_mem hx
        have := Val.size_l hj; omega))
    by_cases k7 : v.kind = 7
    · exact rgv7 v (by omega) k7 dl dm (fun x hx => ih x.v (by
        obtain ⟨j, hj, rfl⟩ := List.getElem_of_mem hx
        have := Val.size_m hj; omega))
    exact rgvX v (by omega) dl dm
theorem rScalar9 (n : Str) : PFn Tryz.prog 84 [.str n] (.bool (scalarB n)) := by
  refine AFn.plain rfl rfl (AFn.en [2] Tryz.func84 ?_)
  repeat' first | refine .s1 ?_ | (refine .q ?_ ?_ <;> intro hc) | fail
  all_goals
    refine Fin.rb ?_
    unfold scalarB sInt sString sBoolean sID
    simp_all
theorem rFind9 (s : Sch) (name : Str) (hs : s.size ≤ 1048576) : PFn Tryz.prog 91 [s.enc, .str name] (.tup [(findR s name).1.enc, .bool (findR s name).2]) := by
  have hsc := rScalar9 name
  have hl := s.len
  refine AFn.plain (by simp [AV.closed, AV.closedL, Dfn.closed]) (by simp [AV.closed, AV.closedL, Sch.closed]) (AFn.eR [.cell 4 49, .tmp 5] Tryz.func91 ?_)
  cases c : scalarB name with
  | true =>
    rw [c] at hsc
    refine .gob ?_
    refine FinR.ret1 rfl ?_
    rw [findR, findO, if_pos c]
    exact Weak.tup (WeakL.cons weak_dfn (WeakL.refl _))
  | false =>
    rw [c] at hsc
    refine .gob ?_
    refine HCode.forK s.defs.length (fun k => [(6, .int .i64 k), (2, .rptr s.enc), (1, .str name), (4, .ptr 0 0)])
      (fun _ => ⟨[.cells [.int .i64 0, .str [], .slice [] .nil, .slice [] .nil, .slice [] .nil, .slice [] .nil]], []⟩) (fun k => findO s name = (s.defs.drop k).find? (fun d => d.name == name))
      ⟨rfl, rfl, rfl, rfl, trivial⟩ rfl (by rw [findO, if_neg (by rw [c]; decide)]; rfl) fun k hk hp => ?_
    by_cases h1 : k < s.defs.length
    · have d1 : decide ((k : Int) < (s.defs.length : Int)) = true := by simp [h1]
      have x1 := map_get' (f := Dfn.enc) h1
      have hd := find_drop (p := fun d : Dfn => d.name == name) h1
      repeat' first | refine .lb ?_ | refine .s1 ?_ | (refine .q ?_ ?_ <;> intro hc) | fail
      · refine FinR.ret1 rfl (Weak.eq ?_)
        rw [findR, hp, hd, if_pos hc]; rfl
      · exact ⟨h1, ⟨rfl, rfl, rfl, rfl, trivial⟩, by simp [belowS, AV.low], rfl, rfl, by rw [hp, hd, if_neg (by simp [hc])]⟩
    · have d1 : decide ((k : Int) < (s.defs.length : Int)) = false := by simp; omega
      refine .go ?_
      refine FinR.ret1 rfl ?_
      rw [findR, hp, List.drop_eq_nil_of_le (by omega)]
      exact Weak.tup (WeakL.cons weak_dfn (WeakL.refl _))
theorem rParam9 (l : List Par) (name : Str) (hl : l.length ≤ 68719476736) : PFn Tryz.prog 25 [.slice (l.map Par.enc) .no, .str name] (.tup [(parR l name).1.enc, .bool (parR l name).2]) := by
  refine AFn.plain (by simp [AV.closed, AV.closedL, Par.closed]) (by simp [AV.closed, AV.closedL, Par.closedL]) (AFn.eR [.cell 4 81, .tmp 5] Tryz.func25 ?_)
  refine .go ?_
  refine HCode.forK l.length (fun k => [(6, .int .i64 k), (0, .slice (l.map Par.enc) .no), (1, .str name), (4, .ptr 0 0)])
    (fun _ => ⟨[.cells [.str [], .str [], .int .i64 0, .int .i64 0, .bool false, .int .i64 0, .int .i64 0, .str [], .slice [] .nil, .slice [] .nil]], []⟩) (fun k => parO l name = (l.drop k).find? (fun p => p.name == name))
    ⟨rfl, rfl, rfl, rfl, trivial⟩ rfl rfl fun k hk hp => ?_
  by_cases h1 : k < l.length
  · have d1 : decide ((k : Int) < (l.length : Int)) = true := by simp [h1]
    have x1 := map_get' (f := Par.enc) h1
    have hd := find_drop (p := fun p : Par => p.name == name) h1
    repeat' first | refine .s1 ?_ | (refine .q ?_ ?_ <;> intro hc) | fail
    · refine FinR.ret1 rfl (Weak.eq ?_)
      rw [parR, hp, hd, if_pos hc]; rfl
    · exact ⟨h1, ⟨rfl, rfl, rfl, rfl, trivial⟩, by simp [belowS, AV.low], rfl, rfl, by rw [hp, hd, if_neg (by simp [hc])]⟩
  · have d1 : decide ((k : Int) < (l.length : Int)) = false := by simp; omega
    refine .go ?_
    refine FinR.ret1 rfl ?_
    rw [parR, hp, List.drop_eq_nil_of_le (by omega)]
    exact Weak.tup (WeakL.cons weak_zeroP (WeakL.refl _))
theorem rGetV (name : Str) (l : List Mem) (hl : l.length ≤ 9223372036854775807) : PFn Tryz.prog 97 [.str name, .slice (l.map Mem.enc) .no] (.tup [(getG name l).1.enc, .bool (getG name l).2]) := by
  refine AFn.plain (by simp [AV.closed, AV.closedL, Val.closed]) (by simp [AV.closed, AV.closedL, Mem.closedL]) (AFn.eR [.cell 4 38, .tmp 5] Tryz.func97 ?_)
  refine .go ?_
  refine HCode.forK l.length (fun k => [(6, .int .i64 k), (1, .slice (l.map Mem.enc) .no), (0, .str name), (4, .ptr 0 0)]) (fun _ => ⟨[.cells zeroV], []⟩) (fun k => getG name l = getG name (l.drop k)) ⟨rfl, rfl, rfl, rfl, trivial⟩ rfl rfl fun k hk hp => ?_
  by_cases h1 : k < l.length
  · have d1 : decide ((k : Int) < (l.length : Int)) = true := by simp [h1]
    have x1 := map_get' (f := Mem.enc) h1
    repeat' first | refine .s1 ?_ | (refine .q ?_ ?_ <;> intro hc) | fail
    · refine FinR.ret1 rfl (Weak.eq ?_)
      rw [hp, getG_drop h1, if_pos hc]; rfl
    · exact ⟨h1, ⟨rfl, rfl, rfl, rfl, trivial⟩, by simp [belowS, AV.low], rfl, rfl, by rw [hp, getG_drop h1, if_neg (by simp [hc])]⟩
  · have d1 : decide ((k : Int) < (l.length : Int)) = false := by simp; omega
    refine .go ?_
    refine FinR.ret1 rfl ?_
    rw [hp, List.drop_eq_nil_of_le (by omega), getG]
    exact Weak.tup (WeakL.cons weak_flatV (WeakL.refl _))
theorem rInput9 (s : Sch) (ps : List Par) (m : List Mem) (hs : s.size ≤ 1048576) (hps : ps.length ≤ 68719476736) (hpz : ∀ p ∈ ps, p.size ≤ 68719476736) (hm : m.length ≤ 68719476736)
    (ih : ∀ x ∈ m, ∀ t : Typ, t.name.length ≤ 68719476736 → PFn Tryz.prog 167 [s.enc, t.enc, x.v.enc, .bool true] (.bool (fitsV s x.v t false))) :
    PFn Tryz.prog 192 [s.enc, .slice (ps.map Par.enc) .no, .slice (m.map Mem.enc) .no] (.bool (fitsM s ps m [] && needsB m ps)) := by
  refine AFn.plain rfl (by simp [AV.closed, AV.closedL, Sch.closed, Par.closedL, Mem.closedL]) (AFn.en [6] Tryz.func192 ?_)
  refine .gob ?_
  refine HCode.forK m.length (fun k => [(7, .int .i64 k), (1, .slice (ps.map Par.enc) .no), (2, .slice (m.map Mem.enc) .no), (3, .rptr s.enc)])
    (fun _ => ⟨[], []⟩) (fun k => fitsM s ps m [] = fitsM s ps (m.drop k) ((m.take k).map Mem.name)) ⟨rfl, rfl, rfl, rfl, trivial⟩ rfl rfl fun k hk hp => ?_
  by_cases h1 : k < m.length
  · have d1 : decide ((k : Int) < (m.length : Int)) = true := by simp [h1]
    have x1 := map_get' (f := Mem.enc) h1
    have hpar := rParam9 ps m[k].name hps
    have hd := fitsM_drop (s := s) (ps := ps) h1
    cases hpo : parO ps m[k].name with
    | none =>
      have e1 : parR ps m[k].name = (zeroP, false) := by rw [parR, hpo]
      rw [e1] at hpar
      rw [hpo] at hd
      refine .go ?_
      refine Fin.rb ?_
      rw [hp, hd]; rfl
    | some p =>
      have e1 : parR ps m[k].name = (p, true) := by rw [parR, hpo]
      have hpm : p ∈ ps := List.mem_of_find?_eq_some hpo
      have hpl := p.lens
      have hpz' := hpz p hpm
      have hft := ih m[k] (List.getElem_mem h1) p.t (by omega)
      rw [e1] at hpar
      rw [hpo] at hd
      simp only at hd
      cases hfv : fitsV s m[k].v p.t false with
      | false =>
        rw [hfv] at hft hd
        refine .go ?_
        refine Fin.rb ?_
        rw [hp, hd]; rfl
      | true =>
        rw [hfv, Bool.true_and] at hd
        rw [hfv] at hft
        refine .go ?_
        refine HCode.forK k (fun j => [(10, .int .i64 j), (7, .int .i64 k), (1, .slice (ps.map Par.enc) .no), (2, .slice (m.map Mem.enc) .no), (3, .rptr s.enc)])
          (fun _ => ⟨[.cells [.str p.name, .str p.t.name, .int .i64 p.t.lists, .int .i64 p.t.musts, .bool p.has, .int .i64 p.d.kind, .int .i64 p.d.n, .str p.d.s, .slice p.d.lv .no, .slice p.d.mv .no]], []⟩) (fun j => m[k].name ∉ (m.take j).map Mem.name) ⟨rfl, rfl, rfl, rfl, rfl, trivial⟩ rfl (by simp) fun j hj hq => ?_
        by_cases h2 : j < k
        · have d2 : decide ((j : Int) < (k : Int)) = true := by simp [h2]
          have hjm : j < m.length := by omega
          have x2 := map_get' (f := Mem.enc) hjm
          have hmt : (m.take (j + 1)).map Mem.name = (m.take j).map Mem.name ++ [m[j].name] := by rw [List.take_succ_eq_append_getElem hjm, List.map_append]; rfl
          by_cases ce : m[j].name = m[k].name
          · have e2 : (m[j].name == m[k].name) = true := by simpa using ce
            refine .go ?_
            refine Fin.rb ?_
            have hin : m[k].name ∈ (m.take k).map Mem.name := by
              rw [← ce, List.mem_map]
              exact ⟨m[j], List.mem_take_iff_getElem.2 ⟨j, by omega, rfl⟩, rfl⟩
            rw [hp, hd, decide_eq_true hin]; rfl
          · have e2 : (m[j].name == m[k].name) = false := by simpa using ce
            refine .go ?_
            exact ⟨h2, ⟨rfl, rfl, rfl, rfl, rfl, trivial⟩, by simp [belowS, AV.low], by simp [belowB, belowT, Ob.low, AV.lowL, AV.low], rfl, by rw [hmt, List.mem_append, not_or]; exact ⟨hq, by simpa using fun e => ce e.symm⟩⟩
        · have d2 : decide ((j : Int) < (k : Int)) = false := by simp; omega
          obtain rfl : j = k := by omega
          refine .go ?_
          exact ⟨h1, ⟨rfl, rfl, rfl, rfl, trivial⟩, by simp [belowS, AV.low], rfl, rfl, by rw [hp, hd, decide_eq_false hq]; rfl⟩
  · have d1 : decide ((k : Int) < (m.length : Int)) = false := by simp; omega
    have hpe : fitsM s ps m [] = true := by rw [hp, List.drop_eq_nil_of_le (by omega), fitsM]
    rw [hpe, Bool.true_and]
    refine .go ?_
    refine HCode.forK ps.length (fun k => [(11, .int .i64 k), (1, .slice (ps.map Par.enc) .no), (2, .slice (m.map Mem.enc) .no)])
      (fun _ => ⟨[], []⟩) (fun k => needsB m ps = needsB m (ps.drop k)) ⟨rfl, rfl, rfl, trivial⟩ rfl rfl fun j hj hq => ?_
    by_cases h2 : j < ps.length
    · have d2 : decide ((j : Int) < (ps.length : Int)) = true := by simp [h2]
      have x2 := map_get' (f := Par.enc) h2
      have hg := rGetV ps[j].name m (by omega)
      rw [getG_snd] at hg
      have his := rIs ps[j].t (by have := hpz _ (List.getElem_mem h2); have := ps[j].lens; omega)
      have hd := needsB_drop (m := m) h2
      unfold reqB at hd
      repeat' first | refine .s1 ?_ | (refine .q ?_ ?_ <;> intro hc) | fail
      all_goals first | (refine Fin.rb ?_; rw [hq, hd]; simp_all; done) | (exact ⟨h2, ⟨rfl, rfl, rfl, trivial⟩, by simp [belowS, AV.low], rfl, rfl, by rw [hq, hd]; simp_all⟩)
    · have d2 : decide ((j : Int) < (ps.length : Int)) = false := by simp; omega
      refine .go ?_
      refine Fin.rb ?_
      rw [hq, List.drop_eq_nil_of_le (by omega), needsB]
theorem bareV_scal {s : Sch} {name : Str} {v : Val} (h : scalarB name = true) : bareV s name v = scalFit name v.kind v.n := by
  unfold bareV bareB findO
  rw [if_pos h]; rfl
end Go.Proofs.YtmfmdehfbpkgdaaGreatDoor
namespace Go.Av
open Go
section
variable [Globals]
variable {P : Program} {all : Array Oper} {draw : Bool} {K : AX → Slots → St → Prop} {rest : List Oper} {acc : List Tag} {s : Slots} {σ : St} {ty : TypeId} {pos : String} {af : Array Edge}
theorem A.max2 {d : Tmp} {x y : Operand} {tys : Array TypeId} {m n r : Int} (hx : ev? s x = some (.int .i64 m)) (hy : ev? s y = some (.int .i64 n)) (hr : (if n > m then n else m) = r)
    (k : AOps P all draw K rest (.pure :: acc) ((d, .int .i64 r) :: s) σ) : AOps P all draw K (⟨some d, .call ⟨.builtin .max, #[x, y], tys⟩, ty, pos, af, none⟩ :: rest) acc s σ :=
  A.step rfl (tpure fun g w a ho => by
    have h1 : a.eval x = .int .i64 m := op1 hx (by simp [Op.operands, Call.operands]) ho
    have h2 : a.eval y = .int .i64 n := op1 hy (by simp [Op.operands, Call.operands]) ho
    exact ⟨.int .i64 r, by subst hr; simp [execOp, resolve, invoke, builtin, Builtin.max_, Builtin.max2, h1, h2, Result.andThen], rfl⟩) k
end
end Go.Av
namespace Go.Proofs.YtmfmdehfbpkgdaaGreatDoor
open Go Go.Av
attribute [local irreducible] HCode AOps PFn AFn Av.Step TStep
theorem max_int (a b : Nat) : (if (b : Int) > (a : Int) then (b : Int) else (a : Int)) = ((max a b : Nat) : Int) := by
  split <;> omega
end Go.Proofs.YtmfmdehfbpkgdaaGreatDoor
