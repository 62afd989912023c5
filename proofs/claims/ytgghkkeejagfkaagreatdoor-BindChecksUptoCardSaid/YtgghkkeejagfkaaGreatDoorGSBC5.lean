/-
  Contracts and plain facts for a law, joined.
-/
import Derived.Test.YtgghkkeejagfkaaGreatDoorGSBC1
import Derived.Test.YtgghkkeejagfkaaGreatDoorGSBC4
import Derived.Test.YtgghkkeejagfkaaGreatDoorGSBC3
set_option maxRecDepth 100000
set_option maxHeartbeats 16000000
set_option linter.unusedVariables false
set_option linter.unusedSimpArgs false
set_option linter.unusedSectionVars false
namespace Go.Proofs.YtgghkkeejagfkaaGreatDoor
open Go Go.Av
attribute [local irreducible] HCode AOps PFn AFn Av.Step TStep
abbrev wst (W : WS) : St := ⟨[.cells W.cs], [.len W.l.length]⟩
theorem wst_below (W : WS) : (belowB 1 1 [.cells W.cs] && belowT 1 1 [.len W.l.length]) = true := by simp [belowB, Ob.low, WS.low, belowT, Tok.low]
theorem len_need (b : Bool) (W : WS) : (wNeed b W).l.length = W.l.length := rfl
theorem len_mark (s : Str) (W : WS) : (wMark s W).l.length = W.l.length + 1 := by simp [wMark]
theorem len_name (s : Str) (W : WS) : (wName s W).l.length = W.l.length + 1 := by simp [wName]
theorem len_val (v : Val) (f : Bool) (W : WS) : (wVal v f W).l.length ≤ W.l.length + 2 * v.size := by
  have := toksV_len v
  unfold wVal
  simp only [List.length_append]
  split
  · omega
  · simp
theorem len_dflt (h : Bool) (v : Val) (W : WS) : (wDflt h v W).l.length ≤ W.l.length + 1 + 2 * v.size := by
  unfold wDflt
  split
  · have := len_val v true (wMark [61] W)
    rw [len_mark] at this
    omega
  · rw [len_need]; omega
theorem fold_len {α : Type} (F : WS → α → WS) (c : α → Nat) (h : ∀ W x, (F W x).l.length ≤ W.l.length + c x) : ∀ (l : List α) (W : WS), (l.foldl F W).l.length ≤ W.l.length + sumSize c l
  | [], W => by simp [sumSize]
  | x :: l, W => by
    have h1 := h W x
    have h2 := fold_len F c h l (F W x)
    rw [List.foldl_cons, sumSize]; omega
theorem fold_ok {α : Type} (F : WS → α → WS) (g : α → Bool) (h : ∀ W x, (F W x).ok = (W.ok && g x)) : ∀ (l : List α) (W : WS), (l.foldl F W).ok = (W.ok && l.all g)
  | [], W => by simp
  | x :: l, W => by rw [List.foldl_cons, fold_ok F g h l, h, List.all_cons, Bool.and_assoc]
theorem fold_take' {α : Type} (F : WS → α → WS) {l : List α} {k : Nat} (h : k < l.length) (W : WS) : (l.take (k + 1)).foldl F W = F ((l.take k).foldl F W) l[k] := by
  rw [List.take_succ_eq_append_getElem h, List.foldl_append]; rfl
theorem wsum_le {α : Type} (c : α → Nat) : ∀ (l : List α) (k : Nat) (h : k < l.length), sumSize c (l.take k) + c l[k] ≤ sumSize c l
  | [], k, h => by simp at h
  | x :: l, 0, h => by simp [sumSize]
  | x :: l, k + 1, h => by
    have := wsum_le c l k (by simpa using h)
    rw [List.take_succ_cons, sumSize, sumSize, List.getElem_cons_succ]; omega
theorem sum_mul {α : Type} (c : α → Nat) (n : Nat) : ∀ l : List α, sumSize (fun x => n * c x) l = n * sumSize c l
  | [] => by simp [sumSize]
  | x :: l => by rw [sumSize, sumSize, sum_mul c n l, Nat.mul_add]
def wStepT (t : Typ) (k : Nat) (W : WS) : WS :=
  if (t.musts.toNat / 2 ^ (t.lists.toNat - k)) % 2 = 1 then wMark [33] (if k = 0 then W else wMark [93] W) else (if k = 0 then W else wMark [93] W)
def wTailT (t : Typ) : Nat → WS → WS
  | 0, W => W
  | k + 1, W => wStepT t k (wTailT t k W)
def wOpenT : Nat → WS → WS
  | 0, W => W
  | k + 1, W => wMark [91] (wOpenT k W)
def wType (t : Typ) (W : WS) : WS := if (W.ok && rightT t) = true then wTailT t (t.lists.toNat + 1) (wName t.name (wOpenT t.lists.toNat (wNeed (rightT t) W))) else wNeed (rightT t) W
theorem len_open : ∀ (k : Nat) (W : WS), (wOpenT k W).l.length = W.l.length + k
  | 0, W => rfl
  | k + 1, W => by rw [wOpenT, len_mark, len_open k W]; omega
theorem len_step (t : Typ) (k : Nat) (W : WS) : (wStepT t k W).l.length ≤ W.l.length + 2 := by
  unfold wStepT
  split
  · rw [len_mark]
    split
    · omega
    · rw [len_mark]; omega
  · split
    · omega
    · rw [len_mark]; omega
theorem len_tail (t : Typ) : ∀ (k : Nat) (W : WS), (wTailT t k W).l.length ≤ W.l.length + 2 * k
  | 0, W => by rw [wTailT]; omega
  | k + 1, W => by
    have h1 := len_step t k (wTailT t k W)
    have h2 := len_tail t k W
    rw [wTailT]; omega
theorem right_parts {t : Typ} (h : rightT t = true) : nameB t.name = true ∧ 0 ≤ t.lists ∧ t.lists ≤ 4 ∧ 0 ≤ t.musts ∧ t.musts < 2 ^ (t.lists.toNat + 1) := by
  unfold rightT at h
  simpa only [Bool.and_eq_true, decide_eq_true_eq] using h
theorem len_type (t : Typ) (W : WS) : (wType t W).l.length ≤ W.l.length + 15 := by
  unfold wType
  split
  next h =>
    have h2 := right_parts (Bool.and_eq_true _ _ ▸ h).2
    have h3 := len_tail t (t.lists.toNat + 1) (wName t.name (wOpenT t.lists.toNat (wNeed (rightT t) W)))
    rw [len_name, len_open, len_need] at h3
    omega
  · rw [len_need]; omega
theorem ok_open : ∀ (k : Nat) (W : WS), (wOpenT k W).ok = W.ok
  | 0, W => rfl
  | k + 1, W => by rw [wOpenT]; exact ok_open k W
theorem ok_step (t : Typ) (k : Nat) (W : WS) : (wStepT t k W).ok = W.ok := by
  unfold wStepT
  repeat' split
  all_goals rfl
theorem ok_tail (t : Typ) : ∀ (k : Nat) (W : WS), (wTailT t k W).ok = W.ok
  | 0, W => rfl
  | k + 1, W => by rw [wTailT, ok_step]; exact ok_tail t k W
theorem ok_type (t : Typ) (W : WS) : (wType t W).ok = (W.ok && rightT t) := by
  unfold wType
  split
  next h =>
    have h2 := right_parts (Bool.and_eq_true _ _ ▸ h).2
    rw [ok_tail]
    show ((wOpenT t.lists.toNat (wNeed (rightT t) W)).ok && nameB t.name) = _
    rw [ok_open, h2.1, Bool.and_true]
    rfl
  · rfl
theorem ok_dflt (p : Par) (W : WS) : (wDflt p.has p.d W).ok = (W.ok && dfltOk p) := by
  unfold wDflt dfltOk
  split
  · show ((wMark [61] W).ok && (plainV p.d && !(true && decide (varsV p.d [] ≠ [])))) = _
    unfold valFix
    rw [show (!(true && decide (varsV p.d [] ≠ []))) = decide (varsV p.d [] = []) by simp]
    rfl
  · rfl
theorem pow_ok {n : Nat} (h : n ≤ 5) : (2 : Int) ^ n ≤ 32 := by
  match n, h with
  | 0, _ => decide
  | 1, _ => decide
  | 2, _ => decide
  | 3, _ => decide
  | 4, _ => decide
  | 5, _ => decide
theorem shr_bit (t : Typ) (k : Nat) (hk : k ≤ t.lists.toNat) (h : 0 ≤ t.lists) (h4 : t.lists ≤ 4) (hm : 0 ≤ t.musts) : t.musts.fdiv (2 ^ min (t.lists - (k : Int)).toNat IntKind.i64.bits) = ((t.musts.toNat / 2 ^ (t.lists.toNat - k) : Nat) : Int) := by
  have e : min (t.lists - (k : Int)).toNat IntKind.i64.bits = t.lists.toNat - k := by
    show min (t.lists - (k : Int)).toNat 64 = _
    omega
  rw [e, Int.fdiv_eq_ediv_of_nonneg _ (Int.le_of_lt (Int.pow_pos (by decide)))]
  rw [Int.natCast_ediv, Int.toNat_of_nonneg hm]
  simp
theorem cType (W : WS) (t : Typ) (hs : t.name.length ≤ 1048640) (hW : W.l.length + 16 ≤ 1099511627776) : WC 289 (.ptr 0 0) [t.enc] W (wType t W) := by
  have h1 := wRight t (by omega)
  have h2 := cNeed W (rightT t)
  refine AFn.enter [] Tryz.func289 rfl rfl rfl rfl rfl (by decide) ?_
  unfold wType
  cases hr : (W.ok && rightT t) with
  | false =>
    rw [if_neg (by simp)]
    have e1 : (!(W.ok && rightT t)) = true := by rw [hr]; rfl
    repeat' first | refine .br ?_ | refine .s1 ?_ | (refine .cond rfl ?_ ?_ <;> intro hc) | (refine A.guard rfl ?_ ?_ <;> intro hc) | refine A.nilPtr rfl ?_ | refine A.callWC h2 rfl rfl rfl rfl (WeakL.refl _) ?_ | fail
    exact ⟨rfl, rfl⟩
  | true =>
    rw [if_pos rfl]
    have e1 : (!(W.ok && rightT t)) = false := by rw [hr]; rfl
    obtain ⟨r1, r2, r3, r4, r5⟩ := right_parts (Bool.and_eq_true _ _ ▸ hr).2
    have r6 : t.musts < 32 + 1 := by have := pow_ok (n := t.lists.toNat + 1) (by omega); omega
    generalize hW1 : wNeed (rightT t) W = W1 at *
    have hl1 : W1.l.length = W.l.length := by rw [← hW1]; rfl
    have e2 : (!W1.ok) = false := by rw [← hW1]; exact e1
    repeat' first | refine .br ?_ | refine .s1 ?_ | (refine .cond rfl ?_ ?_ <;> intro hc) | (refine A.guard rfl ?_ ?_ <;> intro hc) | refine A.nilPtr rfl ?_ | refine A.callWC h2 rfl rfl rfl rfl (WeakL.refl _) ?_ | fail
    refine HCode.forK t.lists.toNat (fun k => [(16, .int .i64 k), (15, .int .i64 t.lists), (3, .rptr t.enc), (0, .ptr 0 0)]) (fun k => wst (wOpenT k W1)) (fun _ => True) ⟨rfl, rfl, rfl, rfl, trivial⟩ rfl trivial fun k hk _ => ?_
    have hlo := len_open k W1
    by_cases hk1 : k < t.lists.toNat
    · have d1 : decide ((k : Int) < t.lists) = true := decide_eq_true (by omega)
      have c1 := cMark (wOpenT k W1) [91] (by omega)
      repeat' first | refine .s1 ?_ | (refine .cond rfl ?_ ?_ <;> intro hc) | (refine A.guard rfl ?_ ?_ <;> intro hc) | refine A.callWC c1 rfl rfl rfl rfl (WeakL.cons (Weak.no (WeakL.refl _)) (WeakL.refl _)) ?_ | fail
      exact ⟨hk1, ⟨rfl, rfl, rfl, rfl, trivial⟩, rfl, wst_below _, rfl, trivial⟩
    · have d1 : decide ((k : Int) < t.lists) = false := decide_eq_false (by omega)
      obtain rfl : k = t.lists.toNat := by omega
      have c1 := cName (wOpenT t.lists.toNat W1) t.name (by omega) (by omega)
      generalize hW2 : wName t.name (wOpenT t.lists.toNat W1) = W2 at *
      have hl2 : W2.l.length ≤ W.l.length + 5 := by rw [← hW2, len_name]; omega
      repeat' first | refine .s1 ?_ | (refine .cond rfl ?_ ?_ <;> intro hc) | (refine A.guard rfl ?_ ?_ <;> intro hc) | refine A.callWC c1 rfl rfl rfl rfl (WeakL.refl _) ?_ | fail
      refine HCode.forK (t.lists.toNat + 1) (fun k => [(4, .int .i64 (t.lists - (k : Int))), (3, .rptr t.enc), (0, .ptr 0 0)]) (fun k => wst (wTailT t k W2)) (fun _ => True) ⟨by rw [show t.lists - ((0 : Nat) : Int) = t.lists by omega]; rfl, rfl, rfl, trivial⟩ rfl trivial fun k hk _ => ?_
      have hlt := len_tail t k W2
      by_cases hk1 : k < t.lists.toNat + 1
      · have d1 : decide (t.lists - (k : Int) ≥ 0) = true := decide_eq_true (by omega)
        have d1' : decide (0 ≤ t.lists - (k : Int)) = true := decide_eq_true (by omega)
        have hsh := shr_bit t k (by omega) r2 r3 r4
        have hq : t.musts.toNat / 2 ^ (t.lists.toNat - k) ≤ t.musts.toNat := Nat.div_le_self _ _
        have n1 : t.lists - (k : Int) - 1 = t.lists - ((k + 1 : Nat) : Int) := by omega
        have hstep : wTailT t (k + 1) W2 = wStepT t k (wTailT t k W2) := rfl
        unfold wStepT at hstep
        by_cases h0 : k = 0
        · have d2 : decide (t.lists - (k : Int) < t.lists) = false := decide_eq_false (by omega)
          rw [if_pos h0] at hstep
          by_cases hb : (t.musts.toNat / 2 ^ (t.lists.toNat - k)) % 2 = 1
          · have d3 : ((((t.musts.toNat / 2 ^ (t.lists.toNat - k)) % 2 : Nat) : Int) == 1) = true := by rw [hb]; rfl
            rw [if_pos hb] at hstep
            have c2 := cMark (wTailT t k W2) [33] (by omega)
            repeat' first | refine .s1 ?_ | (refine .cond rfl ?_ ?_ <;> intro hc) | (refine A.guard rfl ?_ ?_ <;> intro hc) | refine A.shr rfl rfl (by omega) hsh ?_ | refine A.band (m := t.musts.toNat / 2 ^ (t.lists.toNat - k)) (n := 1) rfl rfl rfl rfl (by omega) (by decide) (and1 _) ?_ | refine A.callWC c2 rfl rfl rfl rfl (WeakL.cons (Weak.no (WeakL.refl _)) (WeakL.refl _)) ?_ | fail
            exact ⟨hk1, ⟨congrArg (AV.int .i64) n1, rfl, rfl, trivial⟩, rfl, wst_below _, (congrArg wst hstep).symm, trivial⟩
          · have d3 : ((((t.musts.toNat / 2 ^ (t.lists.toNat - k)) % 2 : Nat) : Int) == 1) = false := by rw [beq_eq_false_iff_ne]; omega
            rw [if_neg hb] at hstep
            repeat' first | refine .s1 ?_ | (refine .cond rfl ?_ ?_ <;> intro hc) | (refine A.guard rfl ?_ ?_ <;> intro hc) | refine A.shr rfl rfl (by omega) hsh ?_ | refine A.band (m := t.musts.toNat / 2 ^ (t.lists.toNat - k)) (n := 1) rfl rfl rfl rfl (by omega) (by decide) (and1 _) ?_ | fail
            exact ⟨hk1, ⟨congrArg (AV.int .i64) n1, rfl, rfl, trivial⟩, rfl, wst_below _, (congrArg wst hstep).symm, trivial⟩
        · have d2 : decide (t.lists - (k : Int) < t.lists) = true := decide_eq_true (by omega)
          rw [if_neg h0] at hstep
          have c3 := cMark (wTailT t k W2) [93] (by omega)
          by_cases hb : (t.musts.toNat / 2 ^ (t.lists.toNat - k)) % 2 = 1
          · have d3 : ((((t.musts.toNat / 2 ^ (t.lists.toNat - k)) % 2 : Nat) : Int) == 1) = true := by rw [hb]; rfl
            rw [if_pos hb] at hstep
            have c2 := cMark (wMark [93] (wTailT t k W2)) [33] (by rw [len_mark]; omega)
            repeat' first | refine .s1 ?_ | (refine .cond rfl ?_ ?_ <;> intro hc) | (refine A.guard rfl ?_ ?_ <;> intro hc) | refine A.shr rfl rfl (by omega) hsh ?_ | refine A.band (m := t.musts.toNat / 2 ^ (t.lists.toNat - k)) (n := 1) rfl rfl rfl rfl (by omega) (by decide) (and1 _) ?_ | refine A.callWC c3 rfl rfl rfl rfl (WeakL.cons (Weak.no (WeakL.refl _)) (WeakL.refl _)) ?_ | refine A.callWC c2 rfl rfl rfl rfl (WeakL.cons (Weak.no (WeakL.refl _)) (WeakL.refl _)) ?_ | fail
            exact ⟨hk1, ⟨congrArg (AV.int .i64) n1, rfl, rfl, trivial⟩, rfl, wst_below _, (congrArg wst hstep).symm, trivial⟩
          · have d3 : ((((t.musts.toNat / 2 ^ (t.lists.toNat - k)) % 2 : Nat) : Int) == 1) = false := by rw [beq_eq_false_iff_ne]; omega
            rw [if_neg hb] at hstep
            repeat' first | refine .s1 ?_ | (refine .cond rfl ?_ ?_ <;> intro hc) | (refine A.guard rfl ?_ ?_ <;> intro hc) | refine A.shr rfl rfl (by omega) hsh ?_ | refine A.band (m := t.musts.toNat / 2 ^ (t.lists.toNat - k)) (n := 1) rfl rfl rfl rfl (by omega) (by decide) (and1 _) ?_ | refine A.callWC c3 rfl rfl rfl rfl (WeakL.cons (Weak.no (WeakL.refl _)) (WeakL.refl _)) ?_ | fail
            exact ⟨hk1, ⟨congrArg (AV.int .i64) n1, rfl, rfl, trivial⟩, rfl, wst_below _, (congrArg wst hstep).symm, trivial⟩
      · have d1 : decide (t.lists - (k : Int) ≥ 0) = false := decide_eq_false (by omega)
        have d1' : decide (0 ≤ t.lists - (k : Int)) = false := decide_eq_false (by omega)
        obtain rfl : k = t.lists.toNat + 1 := by omega
        refine .go ?_
        exact ⟨rfl, rfl⟩
theorem weak_full {xs : List AV} {t : Tk} : WeakL [.slice xs t] [.slice xs .no] := WeakL.cons (Weak.no (WeakL.refl _)) (WeakL.refl _)
def wArg (fixed : Bool) (W : WS) (m : Mem) : WS := wVal m.v fixed (wMark [58] (wName m.name W))
def wArgs (fixed : Bool) (l : List Mem) (W : WS) : WS := if l = [] then W else wMark [41] (l.foldl (wArg fixed) (wMark [40] W))
def wDir (fixed : Bool) (W : WS) (d : Dirc) : WS := wArgs fixed d.args (wName d.name (wMark [64] W))
def wDirs (fixed : Bool) (l : List Dirc) (W : WS) : WS := l.foldl (wDir fixed) W
theorem len_arg (f : Bool) (W : WS) (m : Mem) : (wArg f W m).l.length ≤ W.l.length + 4 * m.size := by
  have h := len_val m.v f (wMark [58] (wName m.name W))
  rw [len_mark, len_name] at h
  have e : m.size = m.name.length + 2 + m.v.size := by cases m; rfl
  unfold wArg; omega
theorem len_argsF (f : Bool) (l : List Mem) (W : WS) : (l.foldl (wArg f) W).l.length ≤ W.l.length + 4 * sumSize Mem.size l := by
  have := fold_len (wArg f) (fun m => 4 * m.size) (len_arg f) l W
  rwa [sum_mul] at this
theorem len_args (f : Bool) (l : List Mem) (W : WS) : (wArgs f l W).l.length ≤ W.l.length + 4 * sumSize Mem.size l + 2 := by
  have h := len_argsF f l (wMark [40] W)
  rw [len_mark] at h
  unfold wArgs
  split
  · omega
  · rw [len_mark]; omega
theorem len_dir (f : Bool) (W : WS) (d : Dirc) : (wDir f W d).l.length ≤ W.l.length + 4 * d.size := by
  have h := len_args f d.args (wName d.name (wMark [64] W))
  rw [len_name, len_mark] at h
  unfold wDir Dirc.size; omega
theorem len_dirs (f : Bool) (l : List Dirc) (W : WS) : (wDirs f l W).l.length ≤ W.l.length + 4 * sumSize Dirc.size l := by
  have := fold_len (wDir f) (fun m => 4 * m.size) (len_dir f) l W
  rwa [sum_mul] at this
theorem ok_args (l : List Mem) (W : WS) : (wArgs true l W).ok = (W.ok && argsOk l) := by
  have h : ∀ (W : WS) (x : Mem), (wArg true W x).ok = (W.ok && (nameB x.name && valFix x.v)) := fun W x => by
    show ((W.ok && nameB x.name) && (plainV x.v && !(true && decide (varsV x.v [] ≠ [])))) = _
    unfold valFix
    rw [show (!(true && decide (varsV x.v [] ≠ []))) = decide (varsV x.v [] = []) by simp, Bool.and_assoc]
  unfold wArgs argsOk
  split
  next e => subst e; simp
  · show (l.foldl (wArg true) (wMark [40] W)).ok = _
    rw [fold_ok _ _ h]
    rfl
theorem ok_dirs (l : List Dirc) (W : WS) : (wDirs true l W).ok = (W.ok && l.all dirOk) :=
  fold_ok _ _ (fun W d => by
    show (wArgs true d.args (wName d.name (wMark [64] W))).ok = _
    rw [ok_args]
    show ((W.ok && nameB d.name) && argsOk d.args) = _
    unfold dirOk
    rw [Bool.and_assoc]) l W
theorem cArgs (W : WS) (fixed : Bool) (l : List Mem) (hl : sumSize Mem.size l ≤ 1048640) (ho : ∀ m ∈ l, m.ok) (hW : W.l.length + 4 * sumSize Mem.size l + 4 ≤ 1099511627776) : WC 330 (.ptr 0 0) [.bool fixed, .slice (l.map Mem.enc) .no] W (wArgs fixed l W) := by
  refine AFn.enter [] Tryz.func330 rfl rfl rfl rfl rfl (by decide) ?_
  have hll : (l.map Mem.enc).length = l.length := List.length_map ..
  have hL := sumSize_length (size := Mem.size) Mem.size_pos l
  unfold wArgs
  by_cases e : l = []
  · subst e
    rw [if_pos rfl]
    refine .go ?_
    exact ⟨rfl, rfl⟩
  · rw [if_neg e]
    have e0 : ((l.length : Int) == 0) = false := by
      rw [beq_eq_false_iff_ne]
      intro h
      exact e (List.length_eq_zero_iff.1 (by omega))
    have e1 : (((l.map Mem.enc).length : Int) == 0) = false := by rw [hll]; exact e0
    have c1 := cMark W [40] (by omega)
    repeat' first | refine .s1 ?_ | (refine .cond rfl ?_ ?_ <;> intro hc) | (refine A.guard rfl ?_ ?_ <;> intro hc) | refine A.callWC c1 rfl rfl rfl rfl weak_full ?_ | fail
    refine HCode.forK l.length (fun k => [(16, .int .i64 k), (15, .int .i64 l.length), (14, .slice (l.map Mem.enc) .no), (1, .bool fixed), (0, .ptr 0 0)]) (fun k => wst ((l.take k).foldl (wArg fixed) (wMark [40] W))) (fun _ => True) ⟨rfl, by rw [← hll]; rfl, rfl, rfl, rfl, trivial⟩ rfl trivial fun k hk _ => ?_
    have hlen := len_argsF fixed (l.take k) (wMark [40] W)
    rw [len_mark] at hlen
    by_cases h1 : k < l.length
    · have d1 : decide ((k : Int) < (l.length : Int)) = true := by simp [h1]
      have x1 := map_get' (f := Mem.enc) h1
      have hst := wsum_le Mem.size l k h1
      have hme : l[k].size = l[k].name.length + 2 + l[k].v.size := by cases l[k]; rfl
      have hmo : l[k].v.ok := ho l[k] (List.getElem_mem h1)
      have hn := fold_take' (wArg fixed) h1 (wMark [40] W)
      generalize hWk : (l.take k).foldl (wArg fixed) (wMark [40] W) = Wk at *
      have c2 := cName Wk l[k].name (by omega) (by omega)
      have c3 := cMark (wName l[k].name Wk) [58] (by rw [len_name]; omega)
      have c4 := cValue (wMark [58] (wName l[k].name Wk)) l[k].v fixed (by omega) hmo (by rw [len_mark, len_name]; omega)
      repeat' first | refine .s1 ?_ | (refine .cond rfl ?_ ?_ <;> intro hc) | (refine A.guard rfl ?_ ?_ <;> intro hc) | refine A.callWC c2 rfl rfl rfl rfl (WeakL.refl _) ?_ | refine A.callWC c3 rfl rfl rfl rfl weak_full ?_ | refine A.callWC c4 rfl rfl rfl (by simp [AV.closedL, AV.closed, Val.closed]) (WeakL.refl _) ?_ | fail
      exact ⟨h1, ⟨rfl, rfl, rfl, rfl, rfl, trivial⟩, by simp [belowS, AV.low], wst_below _, (congrArg wst hn).symm, trivial⟩
    · have d1 : decide ((k : Int) < (l.length : Int)) = false := by simp; omega
      obtain rfl : k = l.length := by omega
      rw [List.take_length] at *
      have c2 := cMark (l.foldl (wArg fixed) (wMark [40] W)) [41] (by omega)
      repeat' first | refine .s1 ?_ | (refine .cond rfl ?_ ?_ <;> intro hc) | (refine A.guard rfl ?_ ?_ <;> intro hc) | refine A.callWC c2 rfl rfl rfl rfl weak_full ?_ | fail
      exact ⟨rfl, rfl⟩
theorem cDirs (W : WS) (fixed : Bool) (l : List Dirc) (hl : sumSize Dirc.size l ≤ 1048640) (ho : ∀ d ∈ l, d.ok) (hW : W.l.length + 4 * sumSize Dirc.size l + 4 ≤ 1099511627776) : WC 311 (.ptr 0 0) [.bool fixed, .slice (l.map Dirc.enc) .no] W (wDirs fixed l W) := by
  refine AFn.enter [] Tryz.func311 rfl rfl rfl rfl rfl (by decide) ?_
  have hll : (l.map Dirc.enc).length = l.length := List.length_map ..
  have hL := sumSize_length (size := Dirc.size) (fun d => by unfold Dirc.size; omega) l
  unfold wDirs
  refine .go ?_
  refine HCode.forK l.length (fun k => [(10, .int .i64 k), (9, .int .i64 l.length), (8, .slice (l.map Dirc.enc) .no), (1, .bool fixed), (0, .ptr 0 0)]) (fun k => wst ((l.take k).foldl (wDir fixed) W)) (fun _ => True) ⟨rfl, by rw [← hll]; rfl, rfl, rfl, rfl, trivial⟩ rfl trivial fun k hk _ => ?_
  have hlen := len_dirs fixed (l.take k) W
  unfold wDirs at hlen
  by_cases h1 : k < l.length
  · have d1 : decide ((k : Int) < (l.length : Int)) = true := by simp [h1]
    have x1 := map_get' (f := Dirc.enc) h1
    have hst := wsum_le Dirc.size l k h1
    have hde : l[k].size = l[k].name.length + sumSize Mem.size l[k].args + 3 := rfl
    have hdo : ∀ m ∈ l[k].args, m.ok := ho l[k] (List.getElem_mem h1)
    have hn := fold_take' (wDir fixed) h1 W
    generalize hWk : (l.take k).foldl (wDir fixed) W = Wk at *
    have c2 := cMark Wk [64] (by omega)
    have c3 := cName (wMark [64] Wk) l[k].name (by omega) (by rw [len_mark]; omega)
    have c4 := cArgs (wName l[k].name (wMark [64] Wk)) fixed l[k].args (by omega) hdo (by rw [len_name, len_mark]; omega)
    repeat' first | refine .s1 ?_ | (refine .cond rfl ?_ ?_ <;> intro hc) | (refine A.guard rfl ?_ ?_ <;> intro hc) | refine A.callWC c2 rfl rfl rfl rfl weak_full ?_ | refine A.callWC c3 rfl rfl rfl rfl (WeakL.refl _) ?_ | refine A.callWC c4 rfl rfl rfl (by simp [AV.closedL, AV.closed, Mem.closedL]) (WeakL.refl _) ?_ | fail
    exact ⟨h1, ⟨rfl, rfl, rfl, rfl, rfl, trivial⟩, by simp [belowS, AV.low], wst_below _, (congrArg wst hn).symm, trivial⟩
  · have d1 : decide ((k : Int) < (l.length : Int)) = false := by simp; omega
    obtain rfl : k = l.length := by omega
    rw [List.take_length] at *
    refine .go ?_
    exact ⟨rfl, rfl⟩
abbrev wst2 (W : WS) : St := ⟨[.cells W.cs, .cells [.ptr 0 0]], [.len W.l.length]⟩
theorem wst_below2 (W : WS) : (belowB 2 1 [.cells W.cs, .cells [.ptr 0 0]] && belowT 2 1 [.len W.l.length]) = true := by
  have : AV.lowL 2 1 W.cs = true := by simp [WS.cs, AV.lowL, AV.low]
  simp [belowB, Ob.low, this, belowT, Tok.low, AV.lowL, AV.low]
def wPar (W : WS) (p : Par) : WS := wDflt p.has p.d (wType p.t (wMark [58] (wName p.name W)))
def wPars (l : List Par) (W : WS) : WS := l.foldl wPar W
theorem len_par (W : WS) (p : Par) : (wPar W p).l.length ≤ W.l.length + 4 * p.size := by
  have h1 := len_dflt p.has p.d (wType p.t (wMark [58] (wName p.name W)))
  have h2 := len_type p.t (wMark [58] (wName p.name W))
  rw [len_mark, len_name] at h2
  unfold wPar Par.size Typ.size; omega
theorem len_pars (l : List Par) (W : WS) : (wPars l W).l.length ≤ W.l.length + 4 * sumSize Par.size l := by
  have := fold_len wPar (fun m => 4 * m.size) len_par l W
  rwa [sum_mul] at this
theorem ok_pars (l : List Par) (W : WS) : (wPars l W).ok = (W.ok && l.all parOk) :=
  fold_ok _ _ (fun W p => by
    show (wDflt p.has p.d (wType p.t (wMark [58] (wName p.name W)))).ok = _
    rw [ok_dflt, ok_type]
    show (((W.ok && nameB p.name) && rightT p.t) && dfltOk p) = _
    unfold parOk
    rw [Bool.and_assoc, Bool.and_assoc]) l W
theorem cPars (W : WS) (l : List Par) (hl : sumSize Par.size l ≤ 1048640) (ho : ∀ p ∈ l, p.ok) (hW : W.l.length + 4 * sumSize Par.size l + 4 ≤ 1099511627776) : WC 262 (.agg [.ptr 0 0]) [.slice (l.map Par.enc) .no] W (wPars l W) := by
  refine WC.of (AFn.enter [] Tryz.func262 rfl rfl rfl rfl rfl (by decide) ?_)
  have hll : (l.map Par.enc).length = l.length := List.length_map ..
  have hL := sumSize_length (size := Par.size) (fun d => by unfold Par.size; omega) l
  unfold wPars
  refine .go ?_
  refine HCode.forK l.length (fun k => [(8, .int .i64 k), (7, .int .i64 l.length), (6, .slice (l.map Par.enc) .no), (2, .ptr 1 0)]) (fun k => wst2 ((l.take k).foldl wPar W)) (fun _ => True) ⟨rfl, by rw [← hll]; rfl, rfl, rfl, trivial⟩ rfl trivial fun k hk _ => ?_
  have hlen := len_pars (l.take k) W
  unfold wPars at hlen
  by_cases h1 : k < l.length
  · have d1 : decide ((k : Int) < (l.length : Int)) = true := by simp [h1]
    have x1 := map_get' (f := Par.enc) h1
    have hst := wsum_le Par.size l k h1
    have hpe : l[k].size = l[k].name.length + l[k].t.size + l[k].d.size + 3 := rfl
    have hte : l[k].t.size = l[k].t.name.length + 4 := rfl
    have hpo : l[k].d.ok := ho l[k] (List.getElem_mem h1)
    have hn := fold_take' wPar h1 W
    generalize hWk : (l.take k).foldl wPar W = Wk at *
    have c2 := cName Wk l[k].name (by omega) (by omega)
    have c3 := cMark (wName l[k].name Wk) [58] (by rw [len_name]; omega)
    have c4 := cType (wMark [58] (wName l[k].name Wk)) l[k].t (by omega) (by rw [len_mark, len_name]; omega)
    have l4 := len_type l[k].t (wMark [58] (wName l[k].name Wk))
    rw [len_mark, len_name] at l4
    have c5 := cDflt (wType l[k].t (wMark [58] (wName l[k].name Wk))) l[k].has l[k].d (by omega) hpo (by omega)
    repeat' first | refine .s1 ?_ | (refine .cond rfl ?_ ?_ <;> intro hc) | (refine A.guard rfl ?_ ?_ <;> intro hc) | refine A.callWC c2 rfl rfl rfl rfl (WeakL.refl _) ?_ | refine A.callWC c3 rfl rfl rfl rfl weak_full ?_ | refine A.callWC c4 rfl rfl rfl rfl (WeakL.refl _) ?_ | refine A.callWC c5 rfl rfl rfl (by simp [AV.closedL, AV.closed, Val.closed]) (WeakL.refl _) ?_ | fail
    exact ⟨h1, ⟨rfl, rfl, rfl, rfl, trivial⟩, by simp [belowS, AV.low], wst_below2 _, (congrArg wst2 hn).symm, trivial⟩
  · have d1 : decide ((k : Int) < (l.length : Int)) = false := by simp; omega
    obtain rfl : k = l.length := by omega
    rw [List.take_length] at *
    refine .go ?_
    exact ⟨rfl, rfl, rfl⟩
def wNmK (mark : Str) (l : List Str) : Nat → WS → WS
  | 0, W => W
  | k + 1, W => wName (l.getD k []) (if k = 0 then wNmK mark l k W else wMark mark (wNmK mark l k W))
def wNames (mark : Str) (l : List Str) (W : WS) : WS := wNmK mark l l.length W
theorem len_nmK (mark : Str) (l : List Str) : ∀ (k : Nat) (W : WS), (wNmK mark l k W).l.length ≤ W.l.length + 2 * k
  | 0, W => by rw [wNmK]; omega
  | k + 1, W => by
    have := len_nmK mark l k W
    rw [wNmK, len_name]
    split
    · omega
    · rw [len_mark]; omega
theorem ok_nmK (mark : Str) (l : List Str) : ∀ (k : Nat) (W : WS), k ≤ l.length → (wNmK mark l k W).ok = (W.ok && (l.take k).all nameB)
  | 0, W, _ => by rw [wNmK]; simp
  | k + 1, W, h => by
    have h1 := ok_nmK mark l k W (by omega)
    have hk : k < l.length := by omega
    rw [List.take_succ_eq_append_getElem hk, List.all_append, ← Bool.and_assoc, ← h1, wNmK]
    have e : l.getD k [] = l[k] := by simp [hk]
    rw [e]
    show ((if k = 0 then wNmK mark l k W else wMark mark (wNmK mark l k W)).ok && nameB l[k]) = _
    simp only [List.all_cons, List.all_nil, Bool.and_true]
    split <;> rfl
theorem ok_names (mark : Str) (l : List Str) (W : WS) : (wNames mark l W).ok = (W.ok && l.all nameB) := by
  unfold wNames
  rw [ok_nmK mark l _ W (Nat.le_refl _), List.take_length]
theorem len_names (mark : Str) (l : List Str) (W : WS) : (wNames mark l W).l.length ≤ W.l.length + 4 * strsSize l := by
  have h1 := len_nmK mark l l.length W
  have h2 := sumSize_length (size := fun s : Str => s.length + 1) (fun _ => by omega) l
  unfold wNames strsSize; omega
theorem cNames (W : WS) (mark : Str) (l : List Str) (hl : strsSize l ≤ 1048640) (hW : W.l.length + 4 * strsSize l + 4 ≤ 1099511627776) : WC 287 (.agg [.ptr 0 0]) [.str mark, .slice (l.map AV.str) .no] W (wNames mark l W) := by
  refine WC.of (AFn.enter [] Tryz.func287 rfl rfl rfl rfl rfl (by decide) ?_)
  have hll : (l.map AV.str).length = l.length := List.length_map ..
  have hL := sumSize_length (size := fun s : Str => s.length + 1) (fun _ => by omega) l
  unfold strsSize at hl hW
  unfold wNames
  refine .go ?_
  refine HCode.forK l.length (fun k => [(10, .int .i64 k), (9, .int .i64 l.length), (8, .slice (l.map AV.str) .no), (1, .str mark), (3, .ptr 1 0)]) (fun k => wst2 (wNmK mark l k W)) (fun _ => True) ⟨rfl, by rw [← hll]; rfl, rfl, rfl, rfl, trivial⟩ rfl trivial fun k hk _ => ?_
  have hlen := len_nmK mark l k W
  by_cases h1 : k < l.length
  · have d1 : decide ((k : Int) < (l.length : Int)) = true := by simp [h1]
    have x1 := map_get' (f := AV.str) h1
    have hm := sumSize_mem (size := fun s : Str => s.length + 1) (List.getElem_mem h1)
    have hn : wNmK mark l (k + 1) W = wName l[k] (if k = 0 then wNmK mark l k W else wMark mark (wNmK mark l k W)) := by rw [wNmK]; simp [h1]
    generalize hWk : wNmK mark l k W = Wk at *
    by_cases h0 : k = 0
    · have d2 : decide (0 < (k : Int)) = false := decide_eq_false (by omega)
      rw [if_pos h0] at hn
      have c2 := cName Wk l[k] (by omega) (by omega)
      repeat' first | refine .s1 ?_ | (refine .cond rfl ?_ ?_ <;> intro hc) | (refine A.guard rfl ?_ ?_ <;> intro hc) | refine A.callWC c2 rfl rfl rfl rfl (WeakL.refl _) ?_ | fail
      exact ⟨h1, ⟨rfl, rfl, rfl, rfl, rfl, trivial⟩, by simp [belowS, AV.low], wst_below2 _, (congrArg wst2 hn).symm, trivial⟩
    · have d2 : decide (0 < (k : Int)) = true := decide_eq_true (by omega)
      rw [if_neg h0] at hn
      have c1 := cMark Wk mark (by omega)
      have c2 := cName (wMark mark Wk) l[k] (by omega) (by rw [len_mark]; omega)
      repeat' first | refine .s1 ?_ | (refine .cond rfl ?_ ?_ <;> intro hc) | (refine A.guard rfl ?_ ?_ <;> intro hc) | refine A.callWC c1 rfl rfl rfl rfl weak_full ?_ | refine A.callWC c2 rfl rfl rfl rfl (WeakL.refl _) ?_ | fail
      exact ⟨h1, ⟨rfl, rfl, rfl, rfl, rfl, trivial⟩, by simp [belowS, AV.low], wst_below2 _, (congrArg wst2 hn).symm, trivial⟩
  · have d1 : decide ((k : Int) < (l.length : Int)) = false := by simp; omega
    obtain rfl : k = l.length := by omega
    refine .go ?_
    exact ⟨rfl, rfl, rfl⟩
def wFldP (f : Fld) (W : WS) : WS := if f.params = [] then W else wMark [41] (wPars f.params (wMark [40] W))
def wFld (W : WS) (f : Fld) : WS := wDirs true f.dirs (wType f.t (wMark [58] (wFldP f (wName f.name W))))
def wFlds (l : List Fld) (W : WS) : WS := l.foldl wFld W
theorem len_fldP (f : Fld) (W : WS) : (wFldP f W).l.length ≤ W.l.length + 4 * sumSize Par.size f.params + 2 := by
  have h := len_pars f.params (wMark [40] W)
  rw [len_mark] at h
  unfold wFldP
  split
  · omega
  · rw [len_mark]; omega
theorem len_fld (W : WS) (f : Fld) : (wFld W f).l.length ≤ W.l.length + 4 * f.size + 4 := by
  have h1 := len_dirs true f.dirs (wType f.t (wMark [58] (wFldP f (wName f.name W))))
  have h2 := len_type f.t (wMark [58] (wFldP f (wName f.name W)))
  have h3 := len_fldP f (wName f.name W)
  rw [len_mark] at h2
  rw [len_name] at h3
  unfold wFld Fld.size Typ.size; omega
theorem len_flds (l : List Fld) (W : WS) : (wFlds l W).l.length ≤ W.l.length + 8 * sumSize Fld.size l := by
  have := fold_len wFld (fun m => 8 * m.size) (fun W f => by have h := len_fld W f; have : 4 ≤ f.size := by unfold Fld.size; omega
                                                             omega) l W
  rwa [sum_mul] at this
theorem ok_fldP (f : Fld) (W : WS) : (wFldP f W).ok = (W.ok && f.params.all parOk) := by
  unfold wFldP
  split
  next e => rw [e]; simp
  · show (wPars f.params (wMark [40] W)).ok = _
    rw [ok_pars]; rfl
theorem ok_flds (l : List Fld) (W : WS) : (wFlds l W).ok = (W.ok && l.all fldOk) :=
  fold_ok _ _ (fun W f => by
    show (wDirs true f.dirs (wType f.t (wMark [58] (wFldP f (wName f.name W))))).ok = _
    rw [ok_dirs, ok_type]
    show (((wFldP f (wName f.name W)).ok && rightT f.t) && f.dirs.all dirOk) = _
    rw [ok_fldP]
    show ((((W.ok && nameB f.name) && f.params.all parOk) && rightT f.t) && f.dirs.all dirOk) = _
    unfold fldOk
    simp only [Bool.and_assoc]) l W
theorem len_pos {α : Type} (l : List α) : decide (0 < (l.length : Int)) = decide (l ≠ []) := by
  cases l <;> simp <;> omega
theorem cFlds (W : WS) (l : List Fld) (hl : sumSize Fld.size l ≤ 1048640) (ho : ∀ f ∈ l, f.ok) (hW : W.l.length + 8 * sumSize Fld.size l + 4 ≤ 1099511627776) : WC 288 (.agg [.ptr 0 0]) [.slice (l.map Fld.enc) .no] W (wFlds l W) := by
  refine WC.of (AFn.enter [] Tryz.func288 rfl rfl rfl rfl rfl (by decide) ?_)
  have hll : (l.map Fld.enc).length = l.length := List.length_map ..
  have hL := sumSize_length (size := Fld.size) (fun d => by unfold Fld.size; omega) l
  unfold wFlds
  refine .go ?_
  refine HCode.forK l.length (fun k => [(8, .int .i64 k), (7, .int .i64 l.length), (6, .slice (l.map Fld.enc) .no), (2, .ptr 1 0)]) (fun k => wst2 ((l.take k).foldl wFld W)) (fun _ => True) ⟨rfl, by rw [← hll]; rfl, rfl, rfl, trivial⟩ rfl trivial fun k hk _ => ?_
  have hlen := len_flds (l.take k) W
  unfold wFlds at hlen
  by_cases h1 : k < l.length
  · have d1 : decide ((k : Int) < (l.length : Int)) = true := by simp [h1]
    have x1 := map_get' (f := Fld.enc) h1
    have hst := wsum_le Fld.size l k h1
    have hfe : l[k].size = l[k].name.length + sumSize Par.size l[k].params + l[k].t.size + sumSize Dirc.size l[k].dirs + 4 := rfl
    have hte : l[k].t.size = l[k].t.name.length + 4 := rfl
    have hpo := ho l[k] (List.getElem_mem h1)
    have hn := fold_take' wFld h1 W
    have hg := len_pos l[k].params
    generalize hWk : (l.take k).foldl wFld W = Wk at *
    have c2 := cName Wk l[k].name (by omega) (by omega)
    have l2 := len_name l[k].name Wk
    generalize hW2 : wName l[k].name Wk = W2 at *
    have l3 := len_fldP l[k] W2
    have c5 := cMark (wFldP l[k] W2) [58] (by omega)
    have c6 := cType (wMark [58] (wFldP l[k] W2)) l[k].t (by omega) (by rw [len_mark]; omega)
    have l6 := len_type l[k].t (wMark [58] (wFldP l[k] W2))
    rw [len_mark] at l6
    have c7 := cDirs (wType l[k].t (wMark [58] (wFldP l[k] W2))) true l[k].dirs (by omega) hpo.2 (by omega)
    have hn2 : wFld Wk l[k] = wDirs true l[k].dirs (wType l[k].t (wMark [58] (wFldP l[k] W2))) := by rw [← hW2]; rfl
    rw [hn2] at hn
    by_cases h0 : l[k].params = []
    · have d2 : decide (0 < (l[k].params.length : Int)) = false := by rw [hg]; simp [h0]
      rw [show wFldP l[k] W2 = W2 from if_pos h0] at c5 c6 c7 hn
      repeat' first | refine .s1 ?_ | (refine .cond rfl ?_ ?_ <;> intro hc) | (refine A.guard rfl ?_ ?_ <;> intro hc) | refine A.callWC c2 rfl rfl rfl rfl (WeakL.refl _) ?_ | refine A.callWC c5 rfl rfl rfl rfl weak_full ?_ | refine A.callWC c6 rfl rfl rfl rfl (WeakL.refl _) ?_ | refine A.callWC c7 rfl rfl rfl (by simp [AV.closedL, AV.closed, Dirc.closedL]) (WeakL.refl _) ?_ | fail
      exact ⟨h1, ⟨rfl, rfl, rfl, rfl, trivial⟩, by simp [belowS, AV.low], wst_below2 _, (congrArg wst2 hn).symm, trivial⟩
    · have d2 : decide (0 < (l[k].params.length : Int)) = true := by rw [hg]; simp [h0]
      rw [show wFldP l[k] W2 = wMark [41] (wPars l[k].params (wMark [40] W2)) from if_neg h0] at c5 c6 c7 hn
      have c3 := cMark W2 [40] (by omega)
      have c4 := cPars (wMark [40] W2) l[k].params (by omega) hpo.1 (by rw [len_mark]; omega)
      have l4 := len_pars l[k].params (wMark [40] W2)
      rw [len_mark] at l4
      have c8 := cMark (wPars l[k].params (wMark [40] W2)) [41] (by omega)
      repeat' first | refine .s1 ?_ | (refine .cond rfl ?_ ?_ <;> intro hc) | (refine A.guard rfl ?_ ?_ <;> intro hc) | refine A.callWC c2 rfl rfl rfl rfl (WeakL.refl _) ?_ | refine A.callWC c3 rfl rfl rfl rfl weak_full ?_ | refine A.callWC c4 rfl rfl rfl (by simp [AV.closedL, AV.closed, Par.closedL]) (WeakL.refl _) ?_ | refine A.callWC c8 rfl rfl rfl rfl weak_full ?_ | refine A.callWC c5 rfl rfl rfl rfl weak_full ?_ | refine A.callWC c6 rfl rfl rfl rfl (WeakL.refl _) ?_ | refine A.callWC c7 rfl rfl rfl (by simp [AV.closedL, AV.closed, Dirc.closedL]) (WeakL.refl _) ?_ | fail
      exact ⟨h1, ⟨rfl, rfl, rfl, rfl, trivial⟩, by simp [belowS, AV.low], wst_below2 _, (congrArg wst2 hn).symm, trivial⟩
  · have d1 : decide ((k : Int) < (l.length : Int)) = false := by simp; omega
    obtain rfl : k = l.length := by omega
    rw [List.take_length] at *
    refine .go ?_
    exact ⟨rfl, rfl, rfl⟩
def sImpl : Str := [105, 109, 112, 108, 101, 109, 101, 110, 116, 115]
def sType : Str := [116, 121, 112, 101]
def sFace : Str := [105, 110, 116, 101, 114, 102, 97, 99, 101]
def sUnion : Str := [117, 110, 105, 111, 110]
def sEnum : Str := [101, 110, 117, 109]
def sInput : Str := [105, 110, 112, 117, 116]
def sSchema : Str := [115, 99, 104, 101, 109, 97]
def sQuery : Str := [113, 117, 101, 114, 121]
def sMut : Str := [109, 117, 116, 97, 116, 105, 111, 110]
theorem nm_sImpl : nameB sImpl = true := by decide
theorem nm_sType : nameB sType = true := by decide
theorem nm_sFace : nameB sFace = true := by decide
theorem nm_sUnion : nameB sUnion = true := by decide
theorem nm_sEnum : nameB sEnum = true := by decide
theorem nm_sInput : nameB sInput = true := by decide
theorem nm_sSchema : nameB sSchema = true := by decide
theorem nm_sQuery : nameB sQuery = true := by decide
theorem nm_sMut : nameB sMut = true := by decide
theorem lens2 {α β : Type} (a : List α) (b : List β) : ((a.length : Int) + (b.length : Int) == 0) = decide (a = [] ∧ b = []) := by
  rw [Bool.eq_iff_iff, beq_iff_eq, decide_eq_true_eq, ← List.length_eq_zero_iff, ← List.length_eq_zero_iff]
  omega
theorem lens3 {α β γ : Type} (a : List α) (b : List β) (c : List γ) : ((a.length : Int) + (b.length : Int) + (c.length : Int) == 0) = decide (a = [] ∧ b = [] ∧ c = []) := by
  rw [Bool.eq_iff_iff, beq_iff_eq, decide_eq_true_eq, ← List.length_eq_zero_iff, ← List.length_eq_zero_iff, ← List.length_eq_zero_iff]
  omega
def wFaces (d : Dfn) (W : WS) : WS := if d.faces = [] then W else wNames [38] d.faces (wName sImpl W)
def wObj0 (d : Dfn) (W : WS) : WS := wMark [125] (wFlds d.fields (wMark [123] (wFaces d W)))
def wObj (word : Str) (d : Dfn) (W : WS) : WS := wObj0 d (wName d.name (wName word (wNeed (decide (d.fields ≠ []) && decide (d.parts = [] ∧ d.params = [])) W)))
theorem len_faces (d : Dfn) (W : WS) : (wFaces d W).l.length ≤ W.l.length + 4 * strsSize d.faces + 1 := by
  have h := len_names [38] d.faces (wName sImpl W)
  rw [len_name] at h
  unfold wFaces
  split <;> omega
theorem len_obj (word : Str) (d : Dfn) (W : WS) : (wObj word d W).l.length ≤ W.l.length + 8 * d.size := by
  have h1 := len_flds d.fields (wMark [123] (wFaces d (wName d.name (wName word (wNeed (decide (d.fields ≠ []) && decide (d.parts = [] ∧ d.params = [])) W)))))
  have h2 := len_faces d (wName d.name (wName word (wNeed (decide (d.fields ≠ []) && decide (d.parts = [] ∧ d.params = [])) W)))
  rw [len_mark] at h1
  rw [len_name, len_name, len_need] at h2
  unfold wObj wObj0 Dfn.size
  rw [len_mark]; omega
theorem ok_faces (d : Dfn) (W : WS) : (wFaces d W).ok = (W.ok && d.faces.all nameB) := by
  unfold wFaces
  split
  next e => rw [e]; simp
  · rw [ok_names]
    show ((W.ok && nameB sImpl) && _) = _
    rw [nm_sImpl, Bool.and_true]
theorem ok_obj (word : Str) (hw : nameB word = true) (d : Dfn) (W : WS) : (wObj word d W).ok = (W.ok && ((decide (d.fields ≠ []) && decide (d.parts = [] ∧ d.params = [])) && (nameB d.name && (d.faces.all nameB && d.fields.all fldOk)))) := by
  show (wFlds d.fields (wMark [123] (wFaces d (wName d.name (wName word (wNeed (decide (d.fields ≠ []) && decide (d.parts = [] ∧ d.params = [])) W)))))).ok = _
  rw [ok_flds]
  show ((wFaces d (wName d.name (wName word (wNeed (decide (d.fields ≠ []) && decide (d.parts = [] ∧ d.params = [])) W)))).ok && _) = _
  rw [ok_faces]
  show (((((W.ok && (decide (d.fields ≠ []) && decide (d.parts = [] ∧ d.params = []))) && nameB word) && nameB d.name) && d.faces.all nameB) && d.fields.all fldOk) = _
  rw [hw, Bool.and_true]
  simp only [Bool.and_assoc]
theorem cObj (W : WS) (word : Str) (d : Dfn) (hw : word.length ≤ 1048640) (hd : d.size ≤ 1048640) (ho : d.ok) (hW : W.l.length + 8 * d.size + 4 ≤ 1099511627776) : WC 260 (.agg [.ptr 0 0]) [.str word, d.enc] W (wObj word d W) := by
  refine WC.of (AFn.enter [] Tryz.func260 rfl rfl rfl rfl rfl (by decide) ?_)
  have hds : d.size = d.name.length + strsSize d.faces + sumSize Fld.size d.fields + strsSize d.parts + sumSize Par.size d.params + 5 := rfl
  have p1 := sumSize_length (size := fun s : Str => s.length + 1) (fun _ => by omega) d.parts
  have p2 := sumSize_length (size := Par.size) (fun d => by unfold Par.size; omega) d.params
  have p3 : strsSize d.parts = sumSize (fun s : Str => s.length + 1) d.parts + 1 := rfl
  have hl := lens2 d.parts d.params
  have hg := len_pos d.fields
  have hf := len_pos d.faces
  unfold wObj
  rw [← hl]
  have main : ∀ b : Bool, b = (decide (d.fields ≠ []) && ((d.parts.length : Int) + (d.params.length : Int) == 0)) → HCode Tryz.prog Tryz.f260.ntmps [] (bodyOf Tryz.f260) (fin [] (fun e σ1 => e = .ret (.tup []) ∧ σ1.B.take 1 = [.cells (wObj0 d (wName d.name (wName word (wNeed b W)))).cs] ∧ σ1.T.take 1 = [.len (wObj0 d (wName d.name (wName word (wNeed b W)))).l.length]))
      (argSlots 0 [.agg [.ptr 0 0], .str word, d.enc]) ⟨[.cells W.cs], [.len W.l.length]⟩ := fun b hb => by
    have c1 := cNeed W b
    have c2 := cName (wNeed b W) word hw (by rw [len_need]; omega)
    have c3 := cName (wName word (wNeed b W)) d.name (by omega) (by rw [len_name, len_need]; omega)
    have l3 : (wName d.name (wName word (wNeed b W))).l.length = W.l.length + 2 := by rw [len_name, len_name, len_need]
    generalize hW2 : wName d.name (wName word (wNeed b W)) = W2 at *
    have l4 := len_faces d W2
    have c6 := cMark (wFaces d W2) [123] (by omega)
    have c7 := cFlds (wMark [123] (wFaces d W2)) d.fields (by omega) ho.1 (by rw [len_mark]; omega)
    have l7 := len_flds d.fields (wMark [123] (wFaces d W2))
    rw [len_mark] at l7
    have c8 := cMark (wFlds d.fields (wMark [123] (wFaces d W2))) [125] (by omega)
    unfold wObj0
    by_cases hpos : decide (d.faces ≠ []) = false
    · have d2 : decide (0 < (d.faces.length : Int)) = false := by rw [hf]; exact hpos
      rw [show wFaces d W2 = _ from if_pos (by simpa using hpos)] at c6 c7 c8 ⊢
      have c4 := cName W2 sImpl (by decide) (by omega)
      have c5 := cNames (wName sImpl W2) [38] d.faces (by omega) (by rw [len_name]; omega)
      cases hB : decide (d.fields ≠ []) with
      | false =>
        have d1 : decide (0 < (d.fields.length : Int)) = false := by rw [hg]; exact hB
        rw [hB] at hb
        obtain rfl : b = false := hb
        repeat' first | refine .br ?_ | refine .s1 ?_ | (refine .cond rfl ?_ ?_ <;> intro hc) | (refine A.guard rfl ?_ ?_ <;> intro hc) | refine A.callWC c1 rfl rfl rfl rfl (WeakL.refl _) ?_ | refine A.callWC c2 rfl rfl rfl rfl (WeakL.refl _) ?_ | refine A.callWC c3 rfl rfl rfl rfl (WeakL.refl _) ?_ | refine A.callWC c4 rfl rfl rfl rfl (WeakL.refl _) ?_ | refine A.callWC c5 rfl rfl rfl (by simp [AV.closedL, AV.closed, str_closedL]) (WeakL.refl _) ?_ | refine A.callWC c6 rfl rfl rfl rfl weak_full ?_ | refine A.callWC c7 rfl rfl rfl (by simp [AV.closedL, AV.closed, Fld.closedL]) (WeakL.refl _) ?_ | refine A.callWC c8 rfl rfl rfl rfl weak_full ?_ | fail
        exact ⟨rfl, rfl, rfl⟩
      | true =>
        have d1 : decide (0 < (d.fields.length : Int)) = true := by rw [hg]; exact hB
        rw [hB] at hb
        obtain rfl : b = ((d.parts.length : Int) + (d.params.length : Int) == 0) := hb
        repeat' first | refine .br ?_ | refine .s1 ?_ | (refine .cond rfl ?_ ?_ <;> intro hc) | (refine A.guard rfl ?_ ?_ <;> intro hc) | refine A.callWC c1 rfl rfl rfl rfl (WeakL.refl _) ?_ | refine A.callWC c2 rfl rfl rfl rfl (WeakL.refl _) ?_ | refine A.callWC c3 rfl rfl rfl rfl (WeakL.refl _) ?_ | refine A.callWC c4 rfl rfl rfl rfl (WeakL.refl _) ?_ | refine A.callWC c5 rfl rfl rfl (by simp [AV.closedL, AV.closed, str_closedL]) (WeakL.refl _) ?_ | refine A.callWC c6 rfl rfl rfl rfl weak_full ?_ | refine A.callWC c7 rfl rfl rfl (by simp [AV.closedL, AV.closed, Fld.closedL]) (WeakL.refl _) ?_ | refine A.callWC c8 rfl rfl rfl rfl weak_full ?_ | fail
        exact ⟨rfl, rfl, rfl⟩
    by_cases hneg : decide (d.faces ≠ []) = true
    · have d2 : decide (0 < (d.faces.length : Int)) = true := by rw [hf]; exact hneg
      rw [show wFaces d W2 = _ from if_neg (by simpa using hneg)] at c6 c7 c8 ⊢
      have c4 := cName W2 sImpl (by decide) (by omega)
      have c5 := cNames (wName sImpl W2) [38] d.faces (by omega) (by rw [len_name]; omega)
      cases hB : decide (d.fields ≠ []) with
      | false =>
        have d1 : decide (0 < (d.fields.length : Int)) = false := by rw [hg]; exact hB
        rw [hB] at hb
        obtain rfl : b = false := hb
        repeat' first | refine .br ?_ | refine .s1 ?_ | (refine .cond rfl ?_ ?_ <;> intro hc) | (refine A.guard rfl ?_ ?_ <;> intro hc) | refine A.callWC c1 rfl rfl rfl rfl (WeakL.refl _) ?_ | refine A.callWC c2 rfl rfl rfl rfl (WeakL.refl _) ?_ | refine A.callWC c3 rfl rfl rfl rfl (WeakL.refl _) ?_ | refine A.callWC c4 rfl rfl rfl rfl (WeakL.refl _) ?_ | refine A.callWC c5 rfl rfl rfl (by simp [AV.closedL, AV.closed, str_closedL]) (WeakL.refl _) ?_ | refine A.callWC c6 rfl rfl rfl rfl weak_full ?_ | refine A.callWC c7 rfl rfl rfl (by simp [AV.closedL, AV.closed, Fld.closedL]) (WeakL.refl _) ?_ | refine A.callWC c8 rfl rfl rfl rfl weak_full ?_ | fail
        exact ⟨rfl, rfl, rfl⟩
      | true =>
        have d1 : decide (0 < (d.fields.length : Int)) = true := by rw [hg]; exact hB
        rw [hB] at hb
        obtain rfl : b = ((d.parts.length : Int) + (d.params.length : Int) == 0) := hb
        repeat' first | refine .br ?_ | refine .s1 ?_ | (refine .cond rfl ?_ ?_ <;> intro hc) | (refine A.guard rfl ?_ ?_ <;> intro hc) | refine A.callWC c1 rfl rfl rfl rfl (WeakL.refl _) ?_ | refine A.callWC c2 rfl rfl rfl rfl (WeakL.refl _) ?_ | refine A.callWC c3 rfl rfl rfl rfl (WeakL.refl _) ?_ | refine A.callWC c4 rfl rfl rfl rfl (WeakL.refl _) ?_ | refine A.callWC c5 rfl rfl rfl (by simp [AV.closedL, AV.closed, str_closedL]) (WeakL.refl _) ?_ | refine A.callWC c6 rfl rfl rfl rfl weak_full ?_ | refine A.callWC c7 rfl rfl rfl (by simp [AV.closedL, AV.closed, Fld.closedL]) (WeakL.refl _) ?_ | refine A.callWC c8 rfl rfl rfl rfl weak_full ?_ | fail
        exact ⟨rfl, rfl, rfl⟩
    exfalso
    cases h : decide (d.faces ≠ []) <;> simp_all
  exact main _ rfl
theorem lBare (s : Sch) (name : Str) (v : Val) (hs : s.size ≤ 68719476736) (hv : v.size ≤ 68719476736)
    (ih : ∀ x ∈ v.m, ∀ t : Typ, t.name.length ≤ 68719476736 → PFn Tryz.prog 229 [s.enc, t.enc, x.v.enc, .bool false] (.bool (fitsV s x.v t false))) :
    PFn Tryz.prog 265 [s.enc, .str name, v.enc] (.bool (bareV s name v)) := by
  have hf := dFind s name hs
  have hsz := findR_size (name := name) hs
  have hin := lInput s (findR s name).1.params v hs hsz.1 hsz.2.2.2.2 hv ih
  have hct := sContainsStr (findR s name).1.parts v.s (by omega)
  refine AFn.plain rfl (by simp [AV.closed, AV.closedL, Sch.closed, Val.closed]) (AFn.enter [6] Tryz.func265 rfl rfl rfl rfl rfl (by decide) ?_)
  unfold bareV bareB
  unfold inputB at hin
  cases hfo : findO s name with
  | none =>
    have e : findR s name = (zeroD, false) := by rw [findR, hfo]
    rw [e] at hf
    repeat' first | refine .br ?_ | refine .s1 ?_ | (refine .cond rfl ?_ ?_ <;> intro hc) | (refine A.guard rfl ?_ ?_ <;> intro hc) | fail
    exact Fin.ret1 rfl (Weak.refl _)
  | some d =>
    have e : findR s name = (d, true) := by rw [findR, hfo]
    rw [e] at hf hin hct
    simp only at hf hin hct ⊢
    by_cases k4 : d.kind = 4
    · have q4 : (d.kind == 4) = true := by rw [k4]; rfl
      rw [if_pos k4]
      repeat' first | refine .br ?_ | refine .s1 ?_ | (refine .cond rfl ?_ ?_ <;> intro hc) | (refine A.guard rfl ?_ ?_ <;> intro hc) | fail
      all_goals
        refine Fin.ret1 rfl (Weak.eq (congrArg AV.bool ?_))
        simp_all
    · have q4 : (d.kind == 4) = false := by simp [k4]
      rw [if_neg k4]
      by_cases k5 : d.kind = 5
      · have q5 : (d.kind == 5) = true := by rw [k5]; rfl
        rw [if_pos k5]
        refine .gob ?_
        exact Fin.ret1 rfl (Weak.refl _)
      · have q5 : (d.kind == 5) = false := by simp [k5]
        rw [if_neg k5]
        by_cases k0 : d.kind = 0
        · have q0 : (d.kind != 0) = false := by simp [k0]
          rw [if_pos k0]
          unfold scalFit
          repeat' first | refine .br ?_ | refine .s1 ?_ | (refine .cond rfl ?_ ?_ <;> intro hc) | (refine A.guard rfl ?_ ?_ <;> intro hc) | fail
          all_goals
            refine Fin.ret1 rfl (Weak.eq (congrArg AV.bool ?_))
            simp only [sInt, sString, sBoolean, sID]
            first | (simp_all; done) | (simp_all <;> omega)
        · have q0 : (d.kind != 0) = true := by simp [k0]
          rw [if_neg k0]
          refine .gob ?_
          exact Fin.ret1 rfl (Weak.refl _)
theorem lFits (s : Sch) (hs : s.size ≤ 68719476736) : ∀ N : Nat, N ≤ 68719476736 → ∀ v : Val, v.size ≤ N → ∀ j : Nat, ∀ t : Typ, t.lists.toNat = j → t.name.length ≤ 68719476736 → ∀ w : Bool,
    PFn Tryz.prog 229 [s.enc, t.enc, v.enc, .bool w] (.bool (fitsV s v t w))
  | 0, _, v, hv => absurd hv (by have := v.size_pos; omega)
  | N + 1, hN, v, hv => by
    have ih := lFits s hs N (by omega)
    have hbare := lBare s
    have hll := v.l_len
    intro j
    induction j with
    | zero =>
      intro t hj ht w
      have hr := wRight t (by omega)
      have his := wIs t (by omega)
      have hit := wItem t (by omega)
      have hb := lBare s t.name v hs (by omega) (fun x hx u hu => ih x.v (by
        obtain ⟨k, hk, rfl⟩ := List.getElem_of_mem hx
        have := Val.size_m hk; omega) _ u rfl hu false)
      refine AFn.plain rfl (by simp [AV.closed, AV.closedL, Sch.closed, Val.closed, Typ.closed]) (AFn.enter [8] Tryz.func229 rfl rfl rfl rfl rfl (by decide) ?_)
      rw [fitsV_eq]
      unfold itemR at hit
      cases c : rightT t with
      | false =>
        rw [c] at hr
        repeat' first | refine .br ?_ | refine .s1 ?_ | (refine .cond rfl ?_ ?_ <;> intro hc) | (refine A.guard rfl ?_ ?_ <;> intro hc) | fail
        all_goals
          refine Fin.ret1 rfl (Weak.eq (congrArg AV.bool ?_))
          simp_all
      | true =>
        have hl0 : t.lists = 0 := by have := (rightT_iff.1 c).2.1; omega
        rw [c] at hr
        rw [if_neg (fun h => h.2 hl0)] at hit
        rw [if_pos hl0]
        repeat' first | refine .br ?_ | refine .s1 ?_ | (refine .cond rfl ?_ ?_ <;> intro hc) | (refine A.guard rfl ?_ ?_ <;> intro hc) | fail
        all_goals
          refine Fin.ret1 rfl (Weak.eq (congrArg AV.bool ?_))
          simp_all
    | succ j ihj =>
      intro t hj ht w
      have hr := wRight t (by omega)
      have his := wIs t (by omega)
      have hit := wItem t (by omega)
      have hl0 : t.lists ≠ 0 := by omega
      have hdown := ihj (itemT t) (by show (t.lists - 1).toNat = j; omega) ht false
      refine AFn.plain rfl (by simp [AV.closed, AV.closedL, Sch.closed, Val.closed, Typ.closed]) (AFn.enter [8] Tryz.func229 rfl rfl rfl rfl rfl (by decide) ?_)
      unfold itemR at hit
      cases c : rightT t with
      | false =>
        rw [c] at hr
        rw [fitsV_eq]
        repeat' first | refine .br ?_ | refine .s1 ?_ | (refine .cond rfl ?_ ?_ <;> intro hc) | (refine A.guard rfl ?_ ?_ <;> intro hc) | fail
        all_goals
          refine Fin.ret1 rfl (Weak.eq (congrArg AV.bool ?_))
          simp_all
      | true =>
        rw [c] at hr
        rw [if_pos ⟨c, hl0⟩] at hit
        by_cases k8 : v.kind = 8
        · have q8 : (v.kind == 8) = true := by simp [k8]
          rw [fitsV_eq, if_pos k8]
          refine .gob ?_
          exact Fin.ret1 rfl (Weak.eq (congrArg AV.bool c.symm))
        · have q8 : (v.kind == 8) = false := by simp [k8]
          by_cases k0 : v.kind = 0
          · have q0 : (v.kind == 0) = true := by simp [k0]
            rw [fits_null k0]
            refine .gob ?_
            all_goals
              refine Fin.ret1 rfl (Weak.eq (congrArg AV.bool ?_))
              simp_all
          · have q0 : (v.kind == 0) = false := by simp [k0]
            by_cases k6 : v.kind = 6
            · have q6 : (v.kind != 6) = false := by simp [k6]
              rw [fitsV_list k6 c hl0]
              refine .gob ?_
              refine HCode.forK v.l.length (fun k => [(59, .int .i64 k), (58, .int .i64 v.lv.length), (57, .slice v.lv .no), (4, .rptr s.enc), (9, .ptr 0 0)])
                (fun _ => ⟨[.cells [.str t.name, .int .i64 (t.lists - 1), .int .i64 (t.musts / 2)]], []⟩) (fun k => fitsL s v.l (itemT t) = fitsL s (v.l.drop k) (itemT t)) ⟨rfl, rfl, rfl, rfl, rfl, trivial⟩ rfl rfl fun k hk hp => ?_
              by_cases h1 : k < v.l.length
              · have d1 : decide ((k : Int) < (v.lv.length : Int)) = true := by rw [v.lv_len]; simp [h1]
                have x1 := Val.lv_get h1
                have hc1 := ih v.l[k] (by have := Val.size_l h1; omega) _ (itemT t) rfl ht true
                have hd := fitsL_drop (s := s) (t := itemT t) h1
                repeat' first | refine .s1 ?_ | (refine .cond rfl ?_ ?_ <;> intro hc) | (refine A.guard rfl ?_ ?_ <;> intro hc) | fail
                all_goals first | (refine Fin.ret1 rfl (Weak.eq (congrArg AV.bool ?_)); rw [hp, hd]; simp_all; done) | (exact ⟨h1, ⟨rfl, rfl, rfl, rfl, rfl, trivial⟩, by simp [belowS, AV.low], rfl, rfl, by rw [hp, hd]; simp_all⟩)
              · have d1 : decide ((k : Int) < (v.lv.length : Int)) = false := by rw [v.lv_len]; simp; omega
                repeat' first | refine .s1 ?_ | (refine .cond rfl ?_ ?_ <;> intro hc) | (refine A.guard rfl ?_ ?_ <;> intro hc) | fail
                refine Fin.ret1 rfl (Weak.eq (congrArg AV.bool ?_))
                rw [hp, List.drop_eq_nil_of_le (by omega), fitsL]
            · have q6 : (v.kind != 6) = true := by simp [k6]
              rw [fitsV_down k8 k0 k6 c hl0]
              repeat' first | refine .br ?_ | refine .s1 ?_ | (refine .cond rfl ?_ ?_ <;> intro hc) | (refine A.guard rfl ?_ ?_ <;> intro hc) | fail
              all_goals
                refine Fin.ret1 rfl (Weak.eq (congrArg AV.bool ?_))
                simp_all
theorem lRight (s : Sch) (t : Typ) (v : Val) (hs : s.size ≤ 68719476736) (ht : t.name.length ≤ 68719476736) (hv : v.size ≤ 68719476736) : PFn Tryz.prog 188 [s.enc, t.enc, v.enc] (.bool (litR s t v)) := by
  have hg := vGood v hv
  have hf := lFits s hs 68719476736 (Nat.le_refl _) v hv _ t rfl ht false
  refine AFn.plain rfl (by simp [AV.closed, AV.closedL, Sch.closed, Val.closed, Typ.closed]) (AFn.enter [6] Tryz.func188 rfl rfl rfl rfl rfl (by decide) ?_)
  unfold litR
  repeat' first | refine .br ?_ | refine .s1 ?_ | (refine .cond rfl ?_ ?_ <;> intro hc) | (refine A.guard rfl ?_ ?_ <;> intro hc) | fail
  all_goals
    refine Fin.ret1 rfl (Weak.eq (congrArg AV.bool ?_))
    simp_all
end Go.Proofs.YtgghkkeejagfkaaGreatDoor
