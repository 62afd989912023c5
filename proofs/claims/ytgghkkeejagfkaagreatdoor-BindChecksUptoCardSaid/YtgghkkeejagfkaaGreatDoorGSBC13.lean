/-
  Contracts and plain facts for a law, joined.
-/
import Derived.Test.YtgghkkeejagfkaaGreatDoorGSBC1
import Derived.Test.YtgghkkeejagfkaaGreatDoorGSBC12
import Derived.Test.YtgghkkeejagfkaaGreatDoorGSBC11
import Derived.Test.YtgghkkeejagfkaaGreatDoorGSBC9
import Derived.Test.YtgghkkeejagfkaaGreatDoorGSBC7
set_option maxRecDepth 100000
set_option maxHeartbeats 16000000
set_option linter.unusedVariables false
set_option linter.unusedSimpArgs false
set_option linter.unusedSectionVars false
namespace Go.Proofs.YtgghkkeejagfkaaGreatDoor
open Go Go.Av
attribute [local irreducible] HCode AOps PFn AFn Av.Step TStep
def rdefB (d : Dfn) : Bool := (nameB d.name && (d.faces.all nameB && (d.fields.all fldOk && (d.parts.all nameB && d.params.all parOk)))) &&
  (if d.kind = 1 ∨ d.kind = 2 then decide (d.fields ≠ []) && decide (d.parts = [] ∧ d.params = [])
   else if d.kind = 3 then decide (d.parts ≠ []) && decide (d.faces = [] ∧ d.fields = [] ∧ d.params = [])
   else if d.kind = 4 then (decide (d.parts ≠ []) && decide (d.faces = [] ∧ d.fields = [] ∧ d.params = [])) && (!decide (sTrue ∈ d.parts) && (!decide (sFalse ∈ d.parts) && !decide (sNull ∈ d.parts)))
   else if d.kind = 5 then decide (d.params ≠ []) && decide (d.faces = [] ∧ d.fields = [] ∧ d.parts = [])
   else false)
theorem all_part (l : List Str) : l.all partOk = (l.all nameB && (!decide (sTrue ∈ l) && (!decide (sFalse ∈ l) && !decide (sNull ∈ l)))) := by
  induction l with
  | nil => simp
  | cons x l ih =>
    rw [List.all_cons, List.all_cons, ih]
    unfold partOk
    have e : ∀ y : Str, decide (y ∈ x :: l) = (x == y || decide (y ∈ l)) := fun y => by
      rw [Bool.eq_iff_iff, decide_eq_true_eq, List.mem_cons, Bool.or_eq_true, beq_iff_eq, decide_eq_true_eq]
      exact or_congr eq_comm Iff.rfl
    rw [e, e, e]
    unfold bne
    cases (x == sTrue) <;> cases (x == sFalse) <;> cases (x == sNull) <;> cases nameB x <;> cases l.all nameB <;> cases decide (sTrue ∈ l) <;> cases decide (sFalse ∈ l) <;> cases decide (sNull ∈ l) <;> rfl
theorem rdef_eq (d : Dfn) : rdefB d = dfnOk d := by
  unfold rdefB dfnOk
  by_cases k1 : d.kind = 1 ∨ d.kind = 2
  · rw [if_pos k1, if_pos k1]
    by_cases c : d.parts = [] ∧ d.params = []
    · rw [c.1, c.2]; cases nameB d.name <;> cases d.faces.all nameB <;> cases d.fields.all fldOk <;> cases decide (d.fields ≠ []) <;> rfl
    · rw [decide_eq_false c]; simp
  rw [if_neg k1, if_neg k1]
  by_cases k3 : d.kind = 3
  · rw [if_pos k3, if_pos k3]
    by_cases c : d.faces = [] ∧ d.fields = [] ∧ d.params = []
    · rw [c.1, c.2.1, c.2.2]; cases nameB d.name <;> cases d.parts.all nameB <;> cases decide (d.parts ≠ []) <;> rfl
    · rw [decide_eq_false c]; simp
  rw [if_neg k3, if_neg k3]
  by_cases k4 : d.kind = 4
  · rw [if_pos k4, if_pos k4, all_part]
    by_cases c : d.faces = [] ∧ d.fields = [] ∧ d.params = []
    · rw [c.1, c.2.1, c.2.2]
      generalize (!decide (sTrue ∈ d.parts) && (!decide (sFalse ∈ d.parts) && !decide (sNull ∈ d.parts))) = z
      cases nameB d.name <;> cases d.parts.all nameB <;> cases decide (d.parts ≠ []) <;> cases z <;> rfl
    · rw [decide_eq_false c]; simp
  rw [if_neg k4, if_neg k4]
  by_cases k5 : d.kind = 5
  · rw [if_pos k5, if_pos k5]
    by_cases c : d.faces = [] ∧ d.fields = [] ∧ d.parts = []
    · rw [c.1, c.2.1, c.2.2]; cases nameB d.name <;> cases d.params.all parOk <;> cases decide (d.params ≠ []) <;> rfl
    · rw [decide_eq_false c]; simp
  rw [if_neg k5, if_neg k5, Bool.and_false]
theorem len0 {α : Type} (l : List α) : ((l.length : Int) == 0) = decide (l = []) := by
  rw [Bool.eq_iff_iff, beq_iff_eq, decide_eq_true_eq, ← List.length_eq_zero_iff]; omega
theorem len1 {α : Type} (l : List α) : decide ((0 : Int) < (l.length : Int)) = decide (l ≠ []) := by
  rw [decide_eq_decide, ne_eq, ← List.length_eq_zero_iff]; omega
theorem rDef6 (d : Dfn) (hd : d.size ≤ 1048576) (ho : d.ok) : PFn Tryz.prog 190 [d.enc] (.bool (dfnOk d)) := by
  have hs := d.sums
  have hl := d.lens
  have h1 := rName d.name (by omega)
  have h2 := rNames6 d.faces (by omega)
  have h3 := rFields6 d.fields (by omega) ho.1
  change PFn _ _ _ (.bool (d.fields.all fldOk)) at h3
  have h4 := rNames6 d.parts (by omega)
  have h5 := rParams6 d.params (by omega)
  change PFn _ _ _ (.bool (d.params.all parOk)) at h5
  have t1 := rHas d.parts sTrue (by omega)
  have t2 := rHas d.parts sFalse (by omega)
  have t3 := rHas d.parts sNull (by omega)
  refine AFn.plain rfl (by simp [AV.closed, AV.closedL, Dfn.closed]) (AFn.enter [2] Tryz.func190 rfl rfl rfl rfl rfl (by decide) ?_)
  rw [← rdef_eq]
  unfold rdefB
  cases c1 : nameB d.name <;> rw [c1] at h1
  · refine .gob ?_
    exact Fin.ret1 rfl (Weak.refl _)
  cases c2 : d.faces.all nameB <;> rw [c2] at h2
  · refine .gob ?_
    exact Fin.ret1 rfl (Weak.refl _)
  cases c3 : d.fields.all fldOk <;> rw [c3] at h3
  · refine .gob ?_
    exact Fin.ret1 rfl (Weak.refl _)
  cases c4 : d.parts.all nameB <;> rw [c4] at h4
  · refine .gob ?_
    exact Fin.ret1 rfl (Weak.refl _)
  cases c5 : d.params.all parOk <;> rw [c5] at h5
  · repeat' first | refine .br ?_ | refine .s1 ?_ | (refine .cond rfl ?_ ?_ <;> intro hc) | (refine A.guard rfl ?_ ?_ <;> intro hc) | fail
    exact Fin.ret1 rfl (Weak.refl _)
  rw [show ((true && (true && (true && (true && true)))) : Bool) = true from rfl, Bool.true_and]
  have l1 := len0 d.faces
  have l2 := len0 d.fields
  have l3 := len0 d.parts
  have l4 := len0 d.params
  have m2 := len1 d.fields
  have m3 := len1 d.parts
  have m4 := len1 d.params
  by_cases k1 : d.kind = 1
  · have q1 : (d.kind == 1) = true := by simp [k1]
    rw [if_pos (.inl k1)]
    repeat' first | refine .br ?_ | refine .s1 ?_ | (refine .cond rfl ?_ ?_ <;> intro hc) | (refine A.guard rfl ?_ ?_ <;> intro hc) | fail
    all_goals
      refine Fin.ret1 rfl (Weak.eq (congrArg AV.bool ?_))
      simp_all
  have q1 : (d.kind == 1) = false := by simp [k1]
  by_cases k2 : d.kind = 2
  · have q2 : (d.kind == 2) = true := by simp [k2]
    rw [if_pos (.inr k2)]
    repeat' first | refine .br ?_ | refine .s1 ?_ | (refine .cond rfl ?_ ?_ <;> intro hc) | (refine A.guard rfl ?_ ?_ <;> intro hc) | fail
    all_goals
      refine Fin.ret1 rfl (Weak.eq (congrArg AV.bool ?_))
      simp_all
  have q2 : (d.kind == 2) = false := by simp [k2]
  rw [if_neg (by omega)]
  by_cases k3 : d.kind = 3
  · have q3 : (d.kind == 3) = true := by simp [k3]
    rw [if_pos k3]
    repeat' first | refine .br ?_ | refine .s1 ?_ | (refine .cond rfl ?_ ?_ <;> intro hc) | (refine A.guard rfl ?_ ?_ <;> intro hc) | fail
    all_goals
      refine Fin.ret1 rfl (Weak.eq (congrArg AV.bool ?_))
      simp_all
  have q3 : (d.kind == 3) = false := by simp [k3]
  rw [if_neg k3]
  by_cases k4 : d.kind = 4
  · have q4 : (d.kind == 4) = true := by simp [k4]
    rw [if_pos k4]
    repeat' first | refine .br ?_ | refine .s1 ?_ | (refine .cond rfl ?_ ?_ <;> intro hc) | (refine A.guard rfl ?_ ?_ <;> intro hc) | fail
    all_goals
      refine Fin.ret1 rfl (Weak.eq (congrArg AV.bool ?_))
      simp_all
  have q4 : (d.kind == 4) = false := by simp [k4]
  rw [if_neg k4]
  by_cases k5 : d.kind = 5
  · have q5 : (d.kind == 5) = true := by simp [k5]
    rw [if_pos k5]
    repeat' first | refine .br ?_ | refine .s1 ?_ | (refine .cond rfl ?_ ?_ <;> intro hc) | (refine A.guard rfl ?_ ?_ <;> intro hc) | fail
    all_goals
      refine Fin.ret1 rfl (Weak.eq (congrArg AV.bool ?_))
      simp_all
  have q5 : (d.kind == 5) = false := by simp [k5]
  rw [if_neg k5]
  refine .gob ?_
  exact Fin.ret1 rfl (Weak.refl _)
theorem rRightSchema (s : Sch) (hs : s.size ≤ 1048576) (ho : s.ok) : PFn Tryz.prog 126 [s.enc] (.bool (sdlOk s)) := by
  have hl := s.len
  have hss : s.size = sumSize Dfn.size s.defs + s.query.length + s.mutation.length + 4 := rfl
  have h1 := rName s.query (by omega)
  have h2 := rName s.mutation (by omega)
  refine AFn.plain rfl (by simp [AV.closed, AV.closedL, Sch.closed]) (AFn.enter [2] Tryz.func126 rfl rfl rfl rfl rfl (by decide) ?_)
  unfold sdlOk
  refine .gob ?_
  refine HCode.forK s.defs.length (fun k => [(3, .int .i64 k), (1, .rptr s.enc)]) (fun _ => ⟨[], []⟩) (fun k => (s.defs.take k).all dfnOk = true) ⟨rfl, rfl, trivial⟩ rfl (by simp) fun k hk hj => ?_
  by_cases e1 : k < s.defs.length
  · have d1 : decide ((k : Int) < (s.defs.length : Int)) = true := by simp [e1]
    have x1 := map_get' (f := Dfn.enc) e1
    have hnx := all_next (p := dfnOk) e1 hj
    have hsp := all_stop (p := dfnOk) e1
    have hd := rDef6 s.defs[k] (by have := Sch.dfn (List.getElem_mem e1); omega) (ho _ (List.getElem_mem e1))
    cases c0 : dfnOk s.defs[k] <;> rw [c0] at hd hnx hsp
    · have ha : s.defs.all dfnOk = false := hsp rfl
      rw [ha, Bool.and_false, Bool.and_false]
      refine .gob ?_
      exact Fin.ret1 rfl (Weak.refl _)
    have hj' := hnx rfl
    refine .gob ?_
    exact ⟨e1, ⟨rfl, rfl, trivial⟩, by simp [belowS, AV.low, AV.low_of_closed, Sch.closed], rfl, rfl, hj'⟩
  · have d1 : decide ((k : Int) < (s.defs.length : Int)) = false := by simp; omega
    obtain rfl : k = s.defs.length := by omega
    rw [List.take_length] at hj
    rw [hj, Bool.and_true]
    cases c1 : nameB s.query <;> rw [c1] at h1
    · refine .gob ?_
      exact Fin.ret1 rfl (Weak.refl _)
    cases c2 : (s.mutation == [])
    all_goals
      refine .gob ?_
      exact Fin.ret1 rfl (Weak.refl _)
theorem kindB3 (s : Sch) (n : Str) (a b : Int) : kindB s n [a, b, b] = kindB s n [a, b] := by unfold kindB; congr 1; rw [decide_eq_decide]; simp
theorem kindB1 (s : Sch) (n : Str) (a : Int) : kindB s n [a, a, a] = kindB s n [a] := by unfold kindB; congr 1; rw [decide_eq_decide]; simp
theorem rIs9 (s : Sch) (name : Str) (a b c : Int) (hs : s.size ≤ 1048576) : PFn Tryz.prog 128 [s.enc, .str name, .int .i64 a, .int .i64 b, .int .i64 c] (.bool (kindB s name [a, b, c])) := by
  have hf := rFind9 s name hs
  refine AFn.plain rfl (by simp [AV.closed, AV.closedL, Sch.closed]) (AFn.enter [10] Tryz.func128 rfl rfl rfl rfl rfl (by decide) ?_)
  unfold kindB
  generalize findR s name = r at *
  obtain ⟨d, ok⟩ := r
  dsimp only at *
  repeat' first | refine .br ?_ | refine .s1 ?_ | (refine .cond rfl ?_ ?_ <;> intro hc) | (refine A.guard rfl ?_ ?_ <;> intro hc) | fail
  all_goals
    refine Fin.ret1 rfl (Weak.eq (congrArg AV.bool ?_))
    first | (simp_all; done) | (simp_all; rw [Bool.eq_iff_iff]; simp)
theorem rLeaf9 (s : Sch) (name : Str) (hs : s.size ≤ 1048576) : PFn Tryz.prog 67 [s.enc, .str name] (.bool (leafB s name)) := by
  have h := rIs9 s name 0 4 4 hs
  rw [kindB3] at h
  refine AFn.plain rfl (by simp [AV.closed, AV.closedL, Sch.closed]) (AFn.enter [4] Tryz.func67 rfl rfl rfl rfl rfl (by decide) ?_)
  refine .gob ?_
  exact Fin.ret1 rfl (Weak.refl _)
theorem rComposite9 (s : Sch) (name : Str) (hs : s.size ≤ 1048576) : PFn Tryz.prog 133 [s.enc, .str name] (.bool (compB s name)) := by
  have h := rIs9 s name 1 2 3 hs
  skip
  refine AFn.plain rfl (by simp [AV.closed, AV.closedL, Sch.closed]) (AFn.enter [4] Tryz.func133 rfl rfl rfl rfl rfl (by decide) ?_)
  refine .gob ?_
  exact Fin.ret1 rfl (Weak.refl _)
theorem rEntry9 (s : Sch) (name : Str) (hs : s.size ≤ 1048576) : PFn Tryz.prog 193 [s.enc, .str name] (.bool (entryB s name)) := by
  have h := rIs9 s name 0 4 5 hs
  skip
  refine AFn.plain rfl (by simp [AV.closed, AV.closedL, Sch.closed]) (AFn.enter [4] Tryz.func193 rfl rfl rfl rfl rfl (by decide) ?_)
  refine .gob ?_
  exact Fin.ret1 rfl (Weak.refl _)
theorem rObject9 (s : Sch) (name : Str) (hs : s.size ≤ 1048576) : PFn Tryz.prog 51 [s.enc, .str name] (.bool (kindB s name [1])) := by
  have h := rIs9 s name 1 1 1 hs
  rw [kindB1] at h
  refine AFn.plain rfl (by simp [AV.closed, AV.closedL, Sch.closed]) (AFn.enter [4] Tryz.func51 rfl rfl rfl rfl rfl (by decide) ?_)
  refine .gob ?_
  exact Fin.ret1 rfl (Weak.refl _)
theorem rInner9 (s : Str) (hs : s.length ≤ 9223372036854775807) : PFn Tryz.prog 192 [.str s] (.bool (own2 s)) := by
  refine AFn.plain rfl rfl (AFn.enter [2] Tryz.func192 rfl rfl rfl rfl rfl (by decide) ?_)
  unfold own2
  by_cases h : 2 ≤ s.length
  · have d1 : decide ((2 : Int) ≤ (s.length : Int)) = true := decide_eq_true (by omega)
    repeat' first | refine .s1 ?_ | (refine .cond rfl ?_ ?_ <;> intro hc) | (refine A.guard rfl ?_ ?_ <;> intro hc) | refine A.slice_s 0 2 rfl rfl rfl rfl rfl rfl rfl (Nat.zero_le _) h (List.drop_zero ..) ?_ | fail
    exact Fin.ret1 rfl (Weak.refl _)
  · have d1 : decide ((2 : Int) ≤ (s.length : Int)) = false := decide_eq_false (by omega)
    refine .go ?_
    refine Fin.ret1 rfl (Weak.eq (congrArg AV.bool ?_))
    rw [eq_comm, beq_eq_false_iff_ne]
    intro e
    have := congrArg List.length e
    rw [List.length_take] at this
    simp only [List.length_cons, List.length_nil] at this
    omega
theorem rTwice9 (l : List Str) (hl : l.length ≤ 68719476736) : PFn Tryz.prog 131 [.slice (l.map AV.str) .no] (.bool (!onceB l)) := by
  refine AFn.plain rfl (by simp [AV.closed, AV.closedL, str_closedL]) (AFn.enter [2] Tryz.func131 rfl rfl rfl rfl rfl (by decide) ?_)
  unfold onceB
  refine .go ?_
  refine HCode.forK l.length (fun k => [(3, .int .i64 k), (0, .slice (l.map AV.str) .no)]) (fun _ => ⟨[], []⟩) (fun k => (l.take k).Nodup) ⟨rfl, rfl, trivial⟩ rfl (by simp) fun k hk hp => ?_
  by_cases h1 : k < l.length
  · have d1 : decide ((k : Int) < (l.length : Int)) = true := by simp [h1]
    have x1 := map_get' (f := AV.str) h1
    have ht := once_take h1
    refine .go ?_
    refine HCode.forK k (fun j => [(4, .int .i64 j), (3, .int .i64 k), (0, .slice (l.map AV.str) .no)]) (fun _ => ⟨[], []⟩) (fun j => l[k] ∉ l.take j) ⟨rfl, rfl, rfl, trivial⟩ rfl (by simp) fun j hj hq => ?_
    by_cases h2 : j < k
    · have d2 : decide ((j : Int) < (k : Int)) = true := by simp [h2]
      have h3 : j < l.length := by omega
      have x2 := map_get' (f := AV.str) h3
      by_cases c : l[k] = l[j]
      · have q : (l[k] == l[j]) = true := by simp [c]
        have hno : ¬ l.Nodup := fun hn => by
          have h4 := (hn.sublist (List.take_sublist (k + 1) l))
          rw [ht] at h4
          exact h4.2 (c ▸ List.mem_take_iff_getElem.2 ⟨j, by omega, rfl⟩)
        rw [decide_eq_false hno]
        refine .go ?_
        exact Fin.ret1 rfl (Weak.refl _)
      · have q : (l[k] == l[j]) = false := by simp [c]
        refine .go ?_
        exact ⟨h2, ⟨rfl, rfl, rfl, trivial⟩, by simp [belowS, AV.low], rfl, rfl, by rw [List.take_succ_eq_append_getElem h3, List.mem_append, List.mem_singleton]; exact fun h => h.elim hq c⟩
    · have d2 : decide ((j : Int) < (k : Int)) = false := by simp; omega
      obtain rfl : j = k := by omega
      refine .go ?_
      exact ⟨h1, ⟨rfl, rfl, trivial⟩, by simp [belowS, AV.low], rfl, rfl, ht.2 ⟨hp, hq⟩⟩
  · have d1 : decide ((k : Int) < (l.length : Int)) = false := by simp; omega
    obtain rfl : k = l.length := by omega
    rw [List.take_length] at hp
    rw [decide_eq_true hp]
    refine .go ?_
    exact Fin.ret1 rfl (Weak.refl _)
theorem rOwn9 (l : List Str) (hl : strsSize l ≤ 68719476736) : PFn Tryz.prog 127 [.slice (l.map AV.str) .no] (.bool (goodNames l)) := by
  have hlen : l.length ≤ 68719476736 := by have := sumSize_length (size := fun s : Str => s.length + 1) (fun _ => by omega) l; unfold strsSize at hl; omega
  have ht := rTwice9 l hlen
  refine AFn.plain rfl (by simp [AV.closed, AV.closedL, str_closedL]) (AFn.enter [2] Tryz.func127 rfl rfl rfl rfl rfl (by decide) ?_)
  unfold goodNames foreignB
  refine .go ?_
  refine HCode.forK l.length (fun k => [(3, .int .i64 k), (0, .slice (l.map AV.str) .no)]) (fun _ => ⟨[], []⟩) (fun k => (l.take k).any own2 = false) ⟨rfl, rfl, trivial⟩ rfl (by simp) fun k hk hp => ?_
  by_cases h1 : k < l.length
  · have d1 : decide ((k : Int) < (l.length : Int)) = true := by simp [h1]
    have x1 := map_get' (f := AV.str) h1
    have hi := rInner9 l[k] (by have := sumSize_mem (size := fun s : Str => s.length + 1) (List.getElem_mem h1); unfold strsSize at hl; omega)
    have hst : (l.take (k + 1)).any own2 = ((l.take k).any own2 || own2 l[k]) := by rw [List.take_succ_eq_append_getElem h1, List.any_append]; simp
    cases c : own2 l[k] <;> rw [c] at hi
    · refine .go ?_
      exact ⟨h1, ⟨rfl, rfl, trivial⟩, by simp [belowS, AV.low], rfl, rfl, by rw [hst, hp, c]; rfl⟩
    · have ha : l.any own2 = true := List.any_eq_true.2 ⟨_, List.getElem_mem h1, c⟩
      rw [ha, Bool.not_true, Bool.and_false]
      refine .go ?_
      exact Fin.ret1 rfl (Weak.refl _)
  · have d1 : decide ((k : Int) < (l.length : Int)) = false := by simp; omega
    obtain rfl : k = l.length := by omega
    rw [List.take_length] at hp
    rw [hp, Bool.not_false, Bool.and_true]
    refine .go ?_
    refine Fin.ret1 rfl (Weak.eq (congrArg AV.bool ?_))
    exact Bool.not_not _
theorem rDefNames9 (s : Sch) (hs : s.size ≤ 1048576) : PFn Tryz.prog 124 [s.enc] (.slice ((s.defs.map Dfn.name).map AV.str) .no) := by
  have hl := s.len
  refine AFn.plain (by simp [AV.closed, str_closedL, -List.map_map]) (by simp [AV.closed, AV.closedL, Sch.closed]) (AFn.enter [2] Tryz.func124 rfl rfl rfl rfl rfl (by decide) ?_)
  repeat' first | refine .br ?_ | refine .s1 ?_ | (refine .cond rfl ?_ ?_ <;> intro hc) | (refine A.guard rfl ?_ ?_ <;> intro hc) | fail
  refine HCode.adopt 3 false 1 rfl rfl rfl rfl rfl rfl ?_
  refine HCode.forK s.defs.length (fun k => [(4, .int .i64 k), (1, .rptr s.enc),(3, .slice (((s.defs.take k).map Dfn.name).map AV.str) (.own 0 1))]) (fun k => ⟨[], [.len k]⟩) (fun _ => True) ⟨rfl, rfl, rfl, trivial⟩ rfl trivial fun k hk _ => ?_
  have htl : (((s.defs.take k).map Dfn.name).map AV.str).length = k := by simp; omega
  by_cases h1 : k < s.defs.length
  · have d1 : decide ((k : Int) < (s.defs.length : Int)) = true := by simp [h1]
    have x1 := map_get' (f := Dfn.enc) h1
    repeat' first | refine .s1 ?_ | (refine .cond rfl ?_ ?_ <;> intro hc) | (refine A.guard rfl ?_ ?_ <;> intro hc) | refine A.append (n := k) rfl rfl rfl rfl rfl rfl rfl rfl htl rfl (by dsimp only [List.length_cons, List.length_nil]; omega) (by dsimp only [List.length_cons, List.length_nil]; omega) rfl ?_ | fail
    exact ⟨h1, ⟨rfl, rfl, by rw [List.take_succ_eq_append_getElem h1, List.map_append, List.map_append]; rfl, trivial⟩, by simp [-List.map_take, -List.map_map, belowS, AV.low, AV.low_of_closed, Sch.closed], by simp [belowB, belowT, Ob.low, Tok.low], rfl, trivial⟩
  · have d1 : decide ((k : Int) < (s.defs.length : Int)) = false := by simp; omega
    obtain rfl : k = s.defs.length := by omega
    rw [List.take_length]
    refine .go ?_
    exact Fin.ret1 rfl (Weak.no (WeakL.refl _))
theorem rParNames9 (l : List Par) (hl : l.length ≤ 68719476736) : PFn Tryz.prog 130 [.slice (l.map Par.enc) .no] (.slice ((l.map Par.name).map AV.str) .no) := by
  skip
  refine AFn.plain (by simp [AV.closed, str_closedL, -List.map_map]) (by simp [AV.closed, AV.closedL, Par.closedL]) (AFn.enter [2] Tryz.func130 rfl rfl rfl rfl rfl (by decide) ?_)
  repeat' first | refine .s1 ?_ | (refine .cond rfl ?_ ?_ <;> intro hc) | (refine A.guard rfl ?_ ?_ <;> intro hc) | fail
  refine HCode.adopt 3 false 1 rfl rfl rfl rfl rfl rfl ?_
  refine HCode.forK l.length (fun k => [(4, .int .i64 k), (0, .slice (l.map Par.enc) .no),(3, .slice (((l.take k).map Par.name).map AV.str) (.own 0 1))]) (fun k => ⟨[], [.len k]⟩) (fun _ => True) ⟨rfl, rfl, rfl, trivial⟩ rfl trivial fun k hk _ => ?_
  have htl : (((l.take k).map Par.name).map AV.str).length = k := by simp; omega
  by_cases h1 : k < l.length
  · have d1 : decide ((k : Int) < (l.length : Int)) = true := by simp [h1]
    have x1 := map_get' (f := Par.enc) h1
    repeat' first | refine .s1 ?_ | (refine .cond rfl ?_ ?_ <;> intro hc) | (refine A.guard rfl ?_ ?_ <;> intro hc) | refine A.append (n := k) rfl rfl rfl rfl rfl rfl rfl rfl htl rfl (by dsimp only [List.length_cons, List.length_nil]; omega) (by dsimp only [List.length_cons, List.length_nil]; omega) rfl ?_ | fail
    exact ⟨h1, ⟨rfl, rfl, by rw [List.take_succ_eq_append_getElem h1, List.map_append, List.map_append]; rfl, trivial⟩, by simp [-List.map_take, -List.map_map, belowS, AV.low, AV.low_of_closed, Sch.closed], by simp [belowB, belowT, Ob.low, Tok.low], rfl, trivial⟩
  · have d1 : decide ((k : Int) < (l.length : Int)) = false := by simp; omega
    obtain rfl : k = l.length := by omega
    rw [List.take_length]
    refine .go ?_
    exact Fin.ret1 rfl (Weak.no (WeakL.refl _))
theorem rFldNames9 (l : List Fld) (hl : l.length ≤ 68719476736) : PFn Tryz.prog 129 [.slice (l.map Fld.enc) .no] (.slice ((l.map Fld.name).map AV.str) .no) := by
  skip
  refine AFn.plain (by simp [AV.closed, str_closedL, -List.map_map]) (by simp [AV.closed, AV.closedL, Fld.closedL]) (AFn.enter [2] Tryz.func129 rfl rfl rfl rfl rfl (by decide) ?_)
  repeat' first | refine .s1 ?_ | (refine .cond rfl ?_ ?_ <;> intro hc) | (refine A.guard rfl ?_ ?_ <;> intro hc) | fail
  refine HCode.adopt 3 false 1 rfl rfl rfl rfl rfl rfl ?_
  refine HCode.forK l.length (fun k => [(4, .int .i64 k), (0, .slice (l.map Fld.enc) .no),(3, .slice (((l.take k).map Fld.name).map AV.str) (.own 0 1))]) (fun k => ⟨[], [.len k]⟩) (fun _ => True) ⟨rfl, rfl, rfl, trivial⟩ rfl trivial fun k hk _ => ?_
  have htl : (((l.take k).map Fld.name).map AV.str).length = k := by simp; omega
  by_cases h1 : k < l.length
  · have d1 : decide ((k : Int) < (l.length : Int)) = true := by simp [h1]
    have x1 := map_get' (f := Fld.enc) h1
    repeat' first | refine .s1 ?_ | (refine .cond rfl ?_ ?_ <;> intro hc) | (refine A.guard rfl ?_ ?_ <;> intro hc) | refine A.append (n := k) rfl rfl rfl rfl rfl rfl rfl rfl htl rfl (by dsimp only [List.length_cons, List.length_nil]; omega) (by dsimp only [List.length_cons, List.length_nil]; omega) rfl ?_ | fail
    exact ⟨h1, ⟨rfl, rfl, by rw [List.take_succ_eq_append_getElem h1, List.map_append, List.map_append]; rfl, trivial⟩, by simp [-List.map_take, -List.map_map, belowS, AV.low, AV.low_of_closed, Sch.closed], by simp [belowB, belowT, Ob.low, Tok.low], rfl, trivial⟩
  · have d1 : decide ((k : Int) < (l.length : Int)) = false := by simp; omega
    obtain rfl : k = l.length := by omega
    rw [List.take_length]
    refine .go ?_
    exact Fin.ret1 rfl (Weak.no (WeakL.refl _))
theorem rright9 (s : Sch) (hs : s.size ≤ 1048576) : ∀ N : Nat, N ≤ 1048576 → ∀ v : Val, v.size ≤ N → ∀ j : Nat, ∀ t : Typ, t.lists.toNat = j → t.name.length ≤ 68719476736 → ∀ w : Bool,
    PFn Tryz.prog 238 [s.enc, t.enc, v.enc, .bool (!w)] (.bool (fitsV s v t w))
  | 0, _, v, hv => absurd hv (by have := v.size_pos; omega)
  | N + 1, hN, v, hv => by
    have ih := rright9 s hs N (by omega)
    have hll := v.l_len
    have hml := v.m_len
    intro j
    induction j with
    | zero =>
      intro t hj ht w
      have hr := rRightType t (by omega)
      have hit := rItem t (by omega)
      unfold itemR at hit
      refine AFn.plain rfl (by simp [AV.closed, AV.closedL, Sch.closed, Val.closed, Typ.closed]) (AFn.enter [8] Tryz.func238 rfl rfl rfl rfl rfl (by decide) ?_)
      cases c : rightT t with
      | false =>
        rw [c] at hr
        rw [fitsV_wrong c]
        refine .gob ?_
        exact Fin.ret1 rfl (Weak.refl _)
      | true =>
        have hl0 : t.lists = 0 := by have := (rightT_iff.1 c).2.1; omega
        rw [c] at hr
        rw [if_neg (fun h => h.2 hl0)] at hit
        by_cases k8 : v.kind = 8
        · have q8 : (v.kind == 8) = true := by simp [k8]
          rw [fitsV_eq, if_pos k8, c]
          refine .gob ?_
          exact Fin.ret1 rfl (Weak.refl _)
        · have q8 : (v.kind == 8) = false := by simp [k8]
          by_cases k0 : v.kind = 0
          · have q0 : (v.kind == 0) = true := by simp [k0]
            have h0 := (rightT_iff.1 c).2.2.2.1
            have h5 := musts_lt c
            rw [fits_null k0]
            repeat' first | refine .br ?_ | refine .s1 ?_ | (refine .cond rfl ?_ ?_ <;> intro hc) | (refine A.guard rfl ?_ ?_ <;> intro hc) | refine A.band (m := t.musts.toNat) (n := 1) rfl rfl (by omega) rfl (by omega) (by decide) (and1 _) ?_ | fail
            refine Fin.ret1 rfl (Weak.eq (congrArg AV.bool ?_))
            unfold isT; rw [c, Bool.true_and, Bool.true_and, Bool.eq_iff_iff, beq_iff_eq, Bool.not_eq_true', decide_eq_false_iff_not]; omega
          · have q0 : (v.kind == 0) = false := by simp [k0]
            rw [fitsV_bare k8 k0 c hl0]
            cases hsc : scalarB t.name with
            | true =>
              rw [bareV_scal hsc]
              unfold scalFit
              repeat' first | refine .br ?_ | refine .s1 ?_ | (refine .cond rfl ?_ ?_ <;> intro hc) | (refine A.guard rfl ?_ ?_ <;> intro hc) | fail
              all_goals first | (refine Fin.ret1 rfl (Weak.eq (congrArg AV.bool ?_)); simp only [sInt, sString, sBoolean, sID]; first | (simp_all; done) | (simp_all <;> omega)) | (exfalso; simp_all [scalarB, sInt, sString, sBoolean, sID]; done)
            | false =>
              have hsc' : (t.name == [73, 110, 116]) = false ∧ (t.name == [83, 116, 114, 105, 110, 103]) = false ∧ (t.name == [66, 111, 111, 108, 101, 97, 110]) = false ∧ (t.name == [73, 68]) = false := by
                unfold scalarB sInt sString sBoolean sID at hsc
                simp only [Bool.or_eq_false_iff] at hsc
                exact ⟨hsc.1.1.1, hsc.1.1.2, hsc.1.2, hsc.2⟩
              obtain ⟨s1, s2, s3, s4⟩ := hsc'
              have hf := rFind9 s t.name hs
              have hsz := findR_size (name := t.name) (s := s) (by omega)
              have hin := rInput9 s (findR s t.name).1.params v.m hs hsz.1 hsz.2.2.2.2 (by omega) (fun x hx u hu => ih x.v (by
                obtain ⟨k, hk, rfl⟩ := List.getElem_of_mem hx
                have := Val.size_m hk; omega) _ u rfl hu false)
              have hhas := rHas (findR s t.name).1.parts v.s (by omega)
              rw [← v.mv_eq] at hin
              have hsf : scalFit t.name v.kind v.n = false := by
                unfold scalFit sInt sString sBoolean sID
                rw [if_neg (by simpa using s1), if_neg (by simpa using s2), if_neg (by simpa using s3), if_neg (by simpa using s4)]
              unfold bareV bareB
              cases hfo : findO s t.name with
              | none =>
                have e : findR s t.name = (zeroD, false) := by rw [findR, hfo]
                rw [e] at hf
                repeat' first | refine .br ?_ | refine .s1 ?_ | (refine .cond rfl ?_ ?_ <;> intro hc) | (refine A.guard rfl ?_ ?_ <;> intro hc) | fail
                exact Fin.ret1 rfl (Weak.refl _)
              | some d =>
                have e : findR s t.name = (d, true) := by rw [findR, hfo]
                rw [e] at hf hin hhas
                simp only at hf hin hhas ⊢
                rw [hsf]
                by_cases k4 : d.kind = 4
                · have q4 : (d.kind == 4) = true := by rw [k4]; rfl
                  rw [if_pos k4]
                  repeat' first | refine .br ?_ | refine .s1 ?_ | (refine .cond rfl ?_ ?_ <;> intro hc) | (refine A.guard rfl ?_ ?_ <;> intro hc) | fail
                  all_goals
                    refine Fin.ret1 rfl (Weak.eq (congrArg AV.bool ?_))
                    simp_all
                · have q4 : (d.kind == 4) = false := by simp [k4]
                  rw [if_neg k4]
                  by_cases k5 : d.kind = 5
                  · have q5 : (d.kind == 5) = true := by rw [k5]; rfl
                    rw [if_pos k5]
                    repeat' first | refine .br ?_ | refine .s1 ?_ | (refine .cond rfl ?_ ?_ <;> intro hc) | (refine A.guard rfl ?_ ?_ <;> intro hc) | fail
                    all_goals
                      refine Fin.ret1 rfl (Weak.eq (congrArg AV.bool ?_))
                      simp_all
                  · have q5 : (d.kind == 5) = false := by simp [k5]
                    rw [if_neg k5, ite_self]
                    refine .gob ?_
                    exact Fin.ret1 rfl (Weak.refl _)
    | succ j ihj =>
      intro t hj ht w
      have hr := rRightType t (by omega)
      have hit := rItem t (by omega)
      have hl0 : t.lists ≠ 0 := by omega
      have hdown := ihj (itemT t) (by show (t.lists - 1).toNat = j; omega) ht false
      unfold itemR at hit
      refine AFn.plain rfl (by simp [AV.closed, AV.closedL, Sch.closed, Val.closed, Typ.closed]) (AFn.enter [8] Tryz.func238 rfl rfl rfl rfl rfl (by decide) ?_)
      cases c : rightT t with
      | false =>
        rw [c] at hr
        rw [fitsV_wrong c]
        refine .gob ?_
        exact Fin.ret1 rfl (Weak.refl _)
      | true =>
        rw [c] at hr
        rw [if_pos ⟨c, hl0⟩] at hit
        by_cases k8 : v.kind = 8
        · have q8 : (v.kind == 8) = true := by simp [k8]
          rw [fitsV_eq, if_pos k8, c]
          refine .gob ?_
          exact Fin.ret1 rfl (Weak.refl _)
        · have q8 : (v.kind == 8) = false := by simp [k8]
          by_cases k0 : v.kind = 0
          · have q0 : (v.kind == 0) = true := by simp [k0]
            have h0 := (rightT_iff.1 c).2.2.2.1
            have h5 := musts_lt c
            rw [fits_null k0]
            repeat' first | refine .br ?_ | refine .s1 ?_ | (refine .cond rfl ?_ ?_ <;> intro hc) | (refine A.guard rfl ?_ ?_ <;> intro hc) | refine A.band (m := t.musts.toNat) (n := 1) rfl rfl (by omega) rfl (by omega) (by decide) (and1 _) ?_ | fail
            refine Fin.ret1 rfl (Weak.eq (congrArg AV.bool ?_))
            unfold isT; rw [c, Bool.true_and, Bool.true_and, Bool.eq_iff_iff, beq_iff_eq, Bool.not_eq_true', decide_eq_false_iff_not]; omega
          · have q0 : (v.kind == 0) = false := by simp [k0]
            by_cases k6 : v.kind = 6
            · have q6 : (v.kind != 6) = false := by simp [k6]
              rw [fitsV_list k6 c hl0]
              refine .gob ?_
              refine HCode.forK v.l.length (fun k => [(11, .int .i64 k), (6, .rptr v.enc), (4, .rptr s.enc), (9, .ptr 0 0)])
                (fun _ => ⟨[.cells [.str t.name, .int .i64 (t.lists - 1), .int .i64 (t.musts / 2)]], []⟩) (fun k => fitsL s v.l (itemT t) = fitsL s (v.l.drop k) (itemT t)) ⟨rfl, rfl, rfl, rfl, trivial⟩ rfl rfl fun k hk hp => ?_
              by_cases h1 : k < v.l.length
              · have d1 : decide ((k : Int) < (v.lv.length : Int)) = true := by rw [v.lv_len]; simp [h1]
                have x1 := Val.lv_get h1
                have hc1 := ih v.l[k] (by have := Val.size_l h1; omega) _ (itemT t) rfl ht true
                have hd := fitsL_drop (s := s) (t := itemT t) h1
                repeat' first | refine .s1 ?_ | (refine .cond rfl ?_ ?_ <;> intro hc) | (refine A.guard rfl ?_ ?_ <;> intro hc) | fail
                all_goals first | (refine Fin.ret1 rfl (Weak.eq (congrArg AV.bool ?_)); rw [hp, hd]; simp_all; done) | (exact ⟨h1, ⟨rfl, rfl, rfl, rfl, trivial⟩, by simp [belowS, AV.low], rfl, rfl, by rw [hp, hd]; simp_all⟩)
              · have d1 : decide ((k : Int) < (v.lv.length : Int)) = false := by rw [v.lv_len]; simp; omega
                refine .go ?_
                refine Fin.ret1 rfl (Weak.eq (congrArg AV.bool ?_))
                rw [hp, List.drop_eq_nil_of_le (by omega), fitsL]
            · have q6 : (v.kind != 6) = true := by simp [k6]
              rw [fitsV_down k8 k0 k6 c hl0]
              cases w with
              | true =>
                refine .gob ?_
                exact Fin.ret1 rfl (Weak.refl _)
              | false =>
                refine .gob ?_
                exact Fin.ret1 rfl (Weak.refl _)
theorem rRight9 (s : Sch) (t : Typ) (v : Val) (hs : s.size ≤ 1048576) (ht : t.name.length ≤ 68719476736) (hv : v.size ≤ 1048576) : PFn Tryz.prog 196 [s.enc, t.enc, v.enc] (.bool (litR s t v)) := by
  have hr := rRightType t (by omega)
  have hg := rGoodValue 1048576 (Nat.le_refl _) v hv
  have hf := rright9 s hs 1048576 (Nat.le_refl _) v hv _ t rfl ht false
  refine AFn.plain rfl (by simp [AV.closed, AV.closedL, Sch.closed, Val.closed, Typ.closed]) (AFn.enter [6] Tryz.func196 rfl rfl rfl rfl rfl (by decide) ?_)
  unfold litR
  cases c : rightT t with
  | false =>
    rw [c] at hr
    rw [fitsV_wrong c, Bool.and_false]
    repeat' first | refine .br ?_ | refine .s1 ?_ | (refine .cond rfl ?_ ?_ <;> intro hc) | (refine A.guard rfl ?_ ?_ <;> intro hc) | fail
    all_goals exact Fin.ret1 rfl (Weak.refl _)
  | true =>
    rw [c] at hr
    repeat' first | refine .br ?_ | refine .s1 ?_ | (refine .cond rfl ?_ ?_ <;> intro hc) | (refine A.guard rfl ?_ ?_ <;> intro hc) | fail
    all_goals
      refine Fin.ret1 rfl (Weak.eq (congrArg AV.bool ?_))
      simp_all
end Go.Proofs.YtgghkkeejagfkaaGreatDoor
namespace Go.Proofs.YtgghkkeejagfkaaGreatDoor
open Go Go.Av
def zeroF : Fld := ⟨[], [], ⟨[], 0, 0⟩, []⟩
def fieldR (s : Sch) (typ name : Str) : Fld × Bool := match fieldO s typ name with
  | none => (zeroF, false)
  | some f => (f, true)
end Go.Proofs.YtgghkkeejagfkaaGreatDoor
namespace Go.Proofs.YtgghkkeejagfkaaGreatDoor
open Go Go.Av
attribute [local irreducible] HCode AOps PFn AFn Av.Step TStep
theorem weak_fld0 {n : Str} {a : Str} {b c : Int} {t1 t2 : Tk} : Weak (.agg [.str n, .slice [] t1, .str a, .int .i64 b, .int .i64 c, .slice [] t2]) (Fld.enc ⟨n, [], ⟨a, b, c⟩, []⟩) :=
  Weak.agg (WeakL.cons (Weak.refl _) (WeakL.cons (Weak.no (WeakL.refl _)) (WeakL.cons (Weak.refl _) (WeakL.cons (Weak.refl _) (WeakL.cons (Weak.refl _) (WeakL.cons (Weak.no (WeakL.refl _)) (WeakL.refl _)))))))
theorem fieldR_tn {s : Sch} {typ name : Str} (h : name = sTypename) (hc : compB s typ = true) : fieldR s typ name = (⟨sTypename, [], ⟨sString, 0, 1⟩, []⟩, true) := by
  unfold fieldR fieldO; rw [if_pos ⟨h, hc⟩, h]
theorem fieldR_no {s : Sch} {typ name : Str} (h : ¬ (name = sTypename ∧ compB s typ = true)) (hk : ¬ ((findR s typ).1.kind = 1 ∨ (findR s typ).1.kind = 2)) : fieldR s typ name = (zeroF, false) := by
  unfold fieldR fieldO; rw [if_neg h, if_neg hk]
theorem fieldR_in {s : Sch} {typ name : Str} (h : ¬ (name = sTypename ∧ compB s typ = true)) (hk : (findR s typ).1.kind = 1 ∨ (findR s typ).1.kind = 2) : fieldR s typ name = match fldO (findR s typ).1.fields name with | none => (zeroF, false) | some f => (f, true) := by
  unfold fieldR fieldO; (rw [if_neg h, if_pos hk]) <;> (cases fldO (findR s typ).1.fields name <;> rfl)
theorem find_kind {s : Sch} {n : Str} (h : (findR s n).2 = false) : (findR s n).1.kind = 0 := by
  unfold findR at h ⊢
  split
  · rename_i d hd; rw [hd] at h; cases h
  · rfl
theorem rField9 (s : Sch) (typ name : Str) (hs : s.size ≤ 1048576) : PFn Tryz.prog 136 [s.enc, .str typ, .str name] (.tup [(fieldR s typ name).1.enc, .bool (fieldR s typ name).2]) := by
  have hC := rComposite9 s typ hs
  have hF := rFind9 s typ hs
  have hfs := (findR_size (name := typ) (show s.size ≤ 68719476736 by omega)).2.2.2.1
  have e1 := @fieldR_tn s typ name
  have e2 := @fieldR_no s typ name
  have e3 := @fieldR_in s typ name
  refine AFn.plain (by simp [AV.closed, AV.closedL, Fld.closed]) (by simp [AV.closed, AV.closedL, Sch.closed]) (AFn.enterR [.cell 6 35, .tmp 7] Tryz.func136 rfl rfl rfl rfl rfl ?_)
  by_cases c : name = sTypename ∧ compB s typ = true
  · obtain ⟨c1, c2⟩ := c
    rw [e1 c1 c2]
    subst c1
    rw [c2] at hC
    have q1 : (sTypename == [95, 95, 116, 121, 112, 101, 110, 97, 109, 101]) = true := by decide
    refine .gob ?_
    refine FinR.ret1 rfl ?_
    exact Weak.tup (WeakL.cons weak_fld0 (WeakL.refl _))
  have hn : (name == [95, 95, 116, 121, 112, 101, 110, 97, 109, 101]) = true → compB s typ = false := fun hx => by
    have : name = sTypename := by unfold sTypename; simpa using hx
    cases hcc : compB s typ with
    | false => rfl
    | true => exact absurd ⟨this, hcc⟩ c
  by_cases k : (findR s typ).1.kind = 1 ∨ (findR s typ).1.kind = 2
  · rw [e3 c k]
    have kk : ((findR s typ).1.kind != 1) = true → ((findR s typ).1.kind != 2) = false := fun hx => by
      rcases k with k | k
      · rw [k] at hx; cases hx
      · rw [k]; rfl
    generalize findR s typ = r at *
    obtain ⟨d, ok⟩ := r
    dsimp only at *
    cases q0 : name == [95, 95, 116, 121, 112, 101, 110, 97, 109, 101]
    all_goals try rw [hn q0] at hC
    all_goals cases q1 : d.kind != 1
    all_goals try have q2 := kk q1
    all_goals
      refine .gob ?_
      refine HCode.forK d.fields.length (fun k => [(10, .int .i64 k), (2, .str name), (6, .ptr 0 0), (8, .ptr 1 0)])
        (fun _ => ⟨[.cells [.str [], .slice [] .nil, .str [], .int .i64 0, .int .i64 0, .slice [] .nil], .cells [.int .i64 d.kind, .str d.name, .slice (d.faces.map AV.str) .no, .slice (d.fields.map Fld.enc) .no, .slice (d.parts.map AV.str) .no, .slice (d.params.map Par.enc) .no]], []⟩)
        (fun k => fldO d.fields name = (d.fields.drop k).find? (fun f => f.name == name)) ⟨rfl, rfl, rfl, rfl, trivial⟩ rfl rfl fun k hk hp => ?_
      by_cases h1 : k < d.fields.length
      · have d1 : decide ((k : Int) < (d.fields.length : Int)) = true := by simp [h1]
        have x1 := map_get' (f := Fld.enc) h1
        have hd := find_drop (p := fun f : Fld => f.name == name) h1
        cases c1 : d.fields[k].name == name
        · refine .go ?_
          exact ⟨h1, ⟨rfl, rfl, rfl, rfl, trivial⟩, by simp [belowS, AV.low], by simp [belowB, belowT, Ob.low, Tok.low, AV.lowL, AV.low], rfl, by rw [hp, hd, if_neg (by simp [c1])]⟩
        · refine .go ?_
          refine FinR.ret1 rfl (Weak.eq ?_)
          rw [hp, hd, if_pos c1]; rfl
      · have d1 : decide ((k : Int) < (d.fields.length : Int)) = false := by simp; omega
        refine .go ?_
        refine FinR.ret1 rfl ?_
        rw [hp, List.drop_eq_nil_of_le (by omega)]
        exact Weak.tup (WeakL.cons weak_fld0 (WeakL.refl _))
  · rw [e2 c k]
    have k1 : ((findR s typ).1.kind != 1) = true := by rw [bne_iff_ne]; exact fun x => k (.inl x)
    have k2 : ((findR s typ).1.kind != 2) = true := by rw [bne_iff_ne]; exact fun x => k (.inr x)
    cases q0 : name == [95, 95, 116, 121, 112, 101, 110, 97, 109, 101]
    · refine .gob ?_
      refine FinR.ret1 rfl ?_
      exact Weak.tup (WeakL.cons weak_fld0 (WeakL.refl _))
    · rw [hn q0] at hC
      refine .gob ?_
      refine FinR.ret1 rfl ?_
      exact Weak.tup (WeakL.cons weak_fld0 (WeakL.refl _))
theorem rPossible9 (s : Sch) (name : Str) (hs : s.size ≤ 1048576) : PFn Tryz.prog 147 [s.enc, .str name] (.slice ((possB s name).map AV.str) .no) := by
  have hf := rFind9 s name hs
  have hz := findR_size (name := name) (show s.size ≤ 68719476736 by omega)
  have hl := s.len
  refine AFn.plain (str_closedL _) (by simp [AV.closed, AV.closedL, Sch.closed]) (AFn.enter [4] Tryz.func147 rfl rfl rfl rfl rfl (by decide) ?_)
  unfold possB
  unfold findR at hf hz
  cases hfo : findO s name with
  | none =>
    rw [hfo] at hf
    refine .gob ?_
    exact Fin.ret1 rfl (Weak.no (WeakL.refl _))
  | some d =>
    rw [hfo] at hf hz
    simp only at hf hz ⊢
    by_cases k1 : d.kind = 1
    · have q1 : (d.kind == 1) = true := by simp [k1]
      rw [if_pos k1]
      repeat' first | refine HCode.adopt 7 false 1 rfl rfl rfl rfl rfl rfl ?_ | refine .br ?_ | refine .s1 ?_ | (refine .cond rfl ?_ ?_ <;> intro hc) | (refine A.guard rfl ?_ ?_ <;> intro hc) | refine A.append (n := 0) rfl rfl rfl rfl rfl rfl rfl rfl rfl rfl (by dsimp only [List.length_cons, List.length_nil]; omega) (by dsimp only [List.length_cons, List.length_nil]; omega) rfl ?_ | fail
      exact Fin.ret1 rfl (Weak.no (WeakL.refl _))
    · have q1 : (d.kind == 1) = false := by simp [k1]
      rw [if_neg k1]
      by_cases k2 : d.kind = 2
      · have q2 : (d.kind == 2) = true := by simp [k2]
        rw [if_pos k2]
        refine .gob ?_
        refine HCode.adopt 7 false 1 rfl rfl rfl rfl rfl rfl ?_
        refine HCode.forK s.defs.length (fun k => [(8, .int .i64 k), (1, .str name), (2, .rptr s.enc), (7, .slice (((s.defs.take k).foldl (fun l x => possF l x name) []).map AV.str) (.own 0 1))])
          (fun k => ⟨[.cells [.int .i64 d.kind, .str d.name, .slice (d.faces.map AV.str) .no, .slice (d.fields.map Fld.enc) .no, .slice (d.parts.map AV.str) .no, .slice (d.params.map Par.enc) .no]], [.len ((s.defs.take k).foldl (fun l x => possF l x name) []).length]⟩) (fun _ => True) ⟨rfl, rfl, rfl, rfl, trivial⟩ rfl trivial fun k hk _ => ?_
        by_cases h1 : k < s.defs.length
        · have d1 : decide ((k : Int) < (s.defs.length : Int)) = true := by simp [h1]
          have x1 := map_get' (f := Dfn.enc) h1
          have hdz := Sch.dfn (List.getElem_mem h1)
          have hdl := s.defs[k].lens
          have hct := rHas s.defs[k].faces name (by omega)
          have hst := fold_take (f := fun l x => possF l x name) (a := []) h1
          have hpl := possF_len name (s.defs.take k)
          rw [List.length_take] at hpl
          generalize (s.defs.take k).foldl (fun l x => possF l x name) [] = xs at hst hpl
          have hcx := rHas xs s.defs[k].name (by omega)
          by_cases j1 : s.defs[k].kind = 1
          · have w1 : (s.defs[k].kind == 1) = true := by simp [j1]
            by_cases c : name ∈ s.defs[k].faces
            · rw [decide_eq_true c] at hct
              replace hst := hst.trans (show possF xs s.defs[k] name = addNew xs s.defs[k].name by unfold possF; rw [if_pos ⟨j1, c⟩])
              unfold addNew at hst
              by_cases c2 : s.defs[k].name ∈ xs
              · rw [decide_eq_true c2] at hcx
                rw [if_pos c2] at hst
                refine .go ?_
                exact ⟨h1, ⟨rfl, rfl, rfl, by rw [hst]; rfl, trivial⟩, by simp [-List.map_take, belowS, AV.low, AV.low_of_closed, Sch.closed], by simp [belowB, belowT, Ob.low, Tok.low, AV.lowL, AV.low], by rw [hst]; rfl, trivial⟩
              · rw [decide_eq_false c2] at hcx
                rw [if_neg c2] at hst
                repeat' first | refine .s1 ?_ | (refine .cond rfl ?_ ?_ <;> intro hc) | (refine A.guard rfl ?_ ?_ <;> intro hc) | refine A.append (n := xs.length) rfl rfl rfl rfl rfl rfl rfl rfl (List.length_map ..) rfl (by dsimp only [List.length_cons, List.length_nil]; omega) (by dsimp only [List.length_cons, List.length_nil]; omega) rfl ?_ | fail
                exact ⟨h1, ⟨rfl, rfl, rfl, by rw [hst, List.map_append]; rfl, trivial⟩, by simp [-List.map_take, belowS, AV.low, AV.low_of_closed, Sch.closed], by simp [belowB, belowT, Ob.low, Tok.low, AV.lowL, AV.low], by rw [hst, List.length_append]; rfl, trivial⟩
            · rw [decide_eq_false c] at hct
              replace hst := hst.trans (show possF xs s.defs[k] name = xs by unfold possF; rw [if_neg (fun h => c h.2)])
              refine .go ?_
              exact ⟨h1, ⟨rfl, rfl, rfl, by rw [hst]; rfl, trivial⟩, by simp [-List.map_take, belowS, AV.low, AV.low_of_closed, Sch.closed], by simp [belowB, belowT, Ob.low, Tok.low, AV.lowL, AV.low], by rw [hst]; rfl, trivial⟩
          · have w1 : (s.defs[k].kind == 1) = false := by simp [j1]
            replace hst := hst.trans (show possF xs s.defs[k] name = xs by unfold possF; rw [if_neg (fun h => j1 h.1)])
            refine .go ?_
            exact ⟨h1, ⟨rfl, rfl, rfl, by rw [hst]; rfl, trivial⟩, by simp [-List.map_take, belowS, AV.low, AV.low_of_closed, Sch.closed], by simp [belowB, belowT, Ob.low, Tok.low, AV.lowL, AV.low], by rw [hst]; rfl, trivial⟩
        · have d1 : decide ((k : Int) < (s.defs.length : Int)) = false := by simp; omega
          obtain rfl : k = s.defs.length := by omega
          rw [List.take_length]
          refine .go ?_
          exact Fin.ret1 rfl (Weak.no (WeakL.refl _))
      · have q2 : (d.kind == 2) = false := by simp [k2]
        rw [if_neg k2]
        by_cases k3 : d.kind = 3
        · have q3 : (d.kind == 3) = true := by simp [k3]
          rw [if_pos k3]
          refine .gob ?_
          refine HCode.adopt 7 false 1 rfl rfl rfl rfl rfl rfl ?_
          refine HCode.forK d.parts.length (fun k => [(10, .int .i64 k), (2, .rptr s.enc), (5, .ptr 0 0), (7, .slice (((d.parts.take k).foldl (possU s) []).map AV.str) (.own 0 1))])
            (fun k => ⟨[.cells [.int .i64 d.kind, .str d.name, .slice (d.faces.map AV.str) .no, .slice (d.fields.map Fld.enc) .no, .slice (d.parts.map AV.str) .no, .slice (d.params.map Par.enc) .no]], [.len ((d.parts.take k).foldl (possU s) []).length]⟩) (fun _ => True) ⟨rfl, rfl, rfl, rfl, trivial⟩ rfl trivial fun k hk _ => ?_
          by_cases h1 : k < d.parts.length
          · have d1 : decide ((k : Int) < (d.parts.length : Int)) = true := by simp [h1]
            have x1 := map_get' (f := AV.str) h1
            have hkd := rObject9 s d.parts[k] hs
            have hst := fold_take (f := possU s) (a := []) h1
            have hpl := possU_len s (d.parts.take k)
            rw [List.length_take] at hpl
            generalize (d.parts.take k).foldl (possU s) [] = xs at hst hpl
            have hcx := rHas xs d.parts[k] (by omega)
            cases c : kindB s d.parts[k] [1] with
            | true =>
              rw [c] at hkd
              replace hst := hst.trans (show possU s xs d.parts[k] = addNew xs d.parts[k] by unfold possU; rw [if_pos c])
              unfold addNew at hst
              by_cases c2 : d.parts[k] ∈ xs
              · rw [decide_eq_true c2] at hcx
                rw [if_pos c2] at hst
                refine .go ?_
                exact ⟨h1, ⟨rfl, rfl, rfl, by rw [hst]; rfl, trivial⟩, by simp [-List.map_take, belowS, AV.low, AV.low_of_closed, Sch.closed], by simp [belowB, belowT, Ob.low, Tok.low, AV.lowL, AV.low], by rw [hst]; rfl, trivial⟩
              · rw [decide_eq_false c2] at hcx
                rw [if_neg c2] at hst
                repeat' first | refine .s1 ?_ | (refine .cond rfl ?_ ?_ <;> intro hc) | (refine A.guard rfl ?_ ?_ <;> intro hc) | refine A.append (n := xs.length) rfl rfl rfl rfl rfl rfl rfl rfl (List.length_map ..) rfl (by dsimp only [List.length_cons, List.length_nil]; omega) (by dsimp only [List.length_cons, List.length_nil]; omega) rfl ?_ | fail
                exact ⟨h1, ⟨rfl, rfl, rfl, by rw [hst, List.map_append]; rfl, trivial⟩, by simp [-List.map_take, belowS, AV.low, AV.low_of_closed, Sch.closed], by simp [belowB, belowT, Ob.low, Tok.low, AV.lowL, AV.low], by rw [hst, List.length_append]; rfl, trivial⟩
            | false =>
              rw [c] at hkd
              replace hst := hst.trans (show possU s xs d.parts[k] = xs by unfold possU; rw [if_neg (by rw [c]; decide)])
              refine .go ?_
              exact ⟨h1, ⟨rfl, rfl, rfl, by rw [hst]; rfl, trivial⟩, by simp [-List.map_take, belowS, AV.low, AV.low_of_closed, Sch.closed], by simp [belowB, belowT, Ob.low, Tok.low, AV.lowL, AV.low], by rw [hst]; rfl, trivial⟩
          · have d1 : decide ((k : Int) < (d.parts.length : Int)) = false := by simp; omega
            obtain rfl : k = d.parts.length := by omega
            rw [List.take_length]
            refine .go ?_
            exact Fin.ret1 rfl (Weak.no (WeakL.refl _))
        · have q3 : (d.kind == 3) = false := by simp [k3]
          rw [if_neg k3]
          refine .gob ?_
          exact Fin.ret1 rfl (Weak.no (WeakL.refl _))
theorem rSubT9 (a b : Typ) (ha : a.name.length ≤ 68719476736) (hb : b.name.length ≤ 68719476736) : PFn Tryz.prog 236 [a.enc, b.enc] (.bool (subT a b)) := by
  have h1 := rRightType a (by omega)
  have h2 := rRightType b (by omega)
  refine AFn.plain rfl (by simp [AV.closed, AV.closedL, Typ.closed]) (AFn.enter [4] Tryz.func236 rfl rfl rfl rfl rfl (by decide) ?_)
  unfold subT
  cases c1 : rightT a <;> rw [c1] at h1
  · repeat' first | refine .br ?_ | refine .s1 ?_ | (refine .cond rfl ?_ ?_ <;> intro hc) | (refine A.guard rfl ?_ ?_ <;> intro hc) | refine A.call rfl h1 (WeakL.refl _) ?_ | fail
    exact Fin.ret1 rfl (Weak.refl _)
  cases c2 : rightT b <;> rw [c2] at h2
  · repeat' first | refine .br ?_ | refine A.call rfl h1 (WeakL.refl _) ?_ | refine A.call rfl h2 (WeakL.refl _) ?_ | refine .s1 ?_ | (refine .cond rfl ?_ ?_ <;> intro hc) | (refine A.guard rfl ?_ ?_ <;> intro hc) | fail
    exact Fin.ret1 rfl (Weak.refl _)
  cases c3 : (a.name == b.name)
  · repeat' first | refine .br ?_ | refine A.call rfl h1 (WeakL.refl _) ?_ | refine A.call rfl h2 (WeakL.refl _) ?_ | refine .s1 ?_ | (refine .cond rfl ?_ ?_ <;> intro hc) | (refine A.guard rfl ?_ ?_ <;> intro hc) | fail
    exact Fin.ret1 rfl (Weak.refl _)
  cases c4 : (a.lists == b.lists)
  · repeat' first | refine .br ?_ | refine A.call rfl h1 (WeakL.refl _) ?_ | refine A.call rfl h2 (WeakL.refl _) ?_ | refine .s1 ?_ | (refine .cond rfl ?_ ?_ <;> intro hc) | (refine A.guard rfl ?_ ?_ <;> intro hc) | fail
    exact Fin.ret1 rfl (Weak.refl _)
  repeat' first | refine .br ?_ | refine A.call rfl h1 (WeakL.refl _) ?_ | refine A.call rfl h2 (WeakL.refl _) ?_ | refine .s1 ?_ | (refine .cond rfl ?_ ?_ <;> intro hc) | (refine A.guard rfl ?_ ?_ <;> intro hc) | refine A.bclr (r := andNotI b.musts a.musts) rfl rfl rfl ?_ | fail
  exact Fin.ret1 rfl (Weak.refl _)
theorem sub_ref (s : Sch) (a b : Typ) : subB s a b = ((rightT a && subT ⟨b.name, a.lists, a.musts⟩ b) && (a.name == b.name ||
    (((findR s a.name).1.kind == 1 && decide (a.name ∈ possB s b.name)) || (((findR s a.name).1.kind == 2 && (findR s b.name).1.kind == 2) && decide (b.name ∈ (findR s a.name).1.faces))))) := by
  unfold subB kindB
  have e1 := @find_kind s a.name
  have e2 := @find_kind s b.name
  generalize findR s a.name = r at *
  generalize findR s b.name = q at *
  obtain ⟨x, o1⟩ := r
  obtain ⟨y, o2⟩ := q
  dsimp only at *
  congr 1
  congr 1
  have e3 : (decide (y.kind ∈ [2])) = (y.kind == 2) := by rw [Bool.eq_iff_iff]; simp
  rw [e3]
  cases o1
  · rw [e1 rfl]; simp
  · cases o2
    · rw [e2 rfl]; simp
    · simp [Bool.and_assoc]
theorem rSub9 (s : Sch) (a b : Typ) (hs : s.size ≤ 1048576) (ha : a.name.length ≤ 68719476736) (hb : b.name.length ≤ 68719476736) : PFn Tryz.prog 194 [s.enc, a.enc, b.enc] (.bool (subB s a b)) := by
  have h1 := rRightType a (by omega)
  have h2 := rSubT9 ⟨b.name, a.lists, a.musts⟩ b hb hb
  have h3 := rFind9 s a.name hs
  have h3b := rFind9 s b.name hs
  have hz := findR_size (name := a.name) (show s.size ≤ 68719476736 by omega)
  have h4 := rPossible9 s b.name hs
  have h5 := rHas (possB s b.name) a.name (by have := poss_len s b.name (show s.size ≤ 1048640 by omega); omega)
  have h7 := rHas (findR s a.name).1.faces b.name (by omega)
  refine AFn.plain rfl (by simp [AV.closed, AV.closedL, Sch.closed, Typ.closed]) (AFn.enter [6] Tryz.func194 rfl rfl rfl rfl rfl (by decide) ?_)
  rw [sub_ref]
  generalize findR s a.name = r at *
  generalize findR s b.name = q at *
  obtain ⟨x, o1⟩ := r
  obtain ⟨y, o2⟩ := q
  dsimp only at *
  cases c1 : rightT a <;> rw [c1] at h1
  · refine .gob ?_
    exact Fin.ret1 rfl (Weak.refl _)
  cases c2 : subT ⟨b.name, a.lists, a.musts⟩ b <;> rw [c2] at h2
  · refine .gob ?_
    exact Fin.ret1 rfl (Weak.refl _)
  cases c3 : (a.name == b.name)
  · cases c4 : (x.kind == 1)
    · cases c5 : (x.kind == 2)
      · repeat' first | refine .br ?_ | refine A.call rfl h3 (WeakL.refl _) ?_ | refine A.call rfl h3b (WeakL.refl _) ?_ | refine .s1 ?_ | (refine .cond rfl ?_ ?_ <;> intro hc) | (refine A.guard rfl ?_ ?_ <;> intro hc) | fail
        exact Fin.ret1 rfl (Weak.refl _)
      · cases c6 : (y.kind == 2)
        all_goals
          repeat' first | refine .br ?_ | refine A.call rfl h3 (WeakL.refl _) ?_ | refine A.call rfl h3b (WeakL.refl _) ?_ | refine A.call rfl h7 (WeakL.refl _) ?_ | refine .s1 ?_ | (refine .cond rfl ?_ ?_ <;> intro hc) | (refine A.guard rfl ?_ ?_ <;> intro hc) | fail
          exact Fin.ret1 rfl (Weak.refl _)
    · have c5 : (x.kind == 2) = false := by
        have : x.kind = 1 := by simpa using c4
        rw [this]; rfl
      cases c6 : decide (a.name ∈ possB s b.name) <;> rw [c6] at h5
      all_goals
        repeat' first | refine .br ?_ | refine A.call rfl h3 (WeakL.refl _) ?_ | refine A.call rfl h3b (WeakL.refl _) ?_ | refine A.call rfl h5 (WeakL.refl _) ?_ | refine .s1 ?_ | (refine .cond rfl ?_ ?_ <;> intro hc) | (refine A.guard rfl ?_ ?_ <;> intro hc) | fail
        all_goals
          refine Fin.ret1 rfl (Weak.eq (congrArg AV.bool ?_))
          simp_all
  · refine .gob ?_
    exact Fin.ret1 rfl (Weak.refl _)
end Go.Proofs.YtgghkkeejagfkaaGreatDoor
