/-
  Contracts and plain facts for a law, joined.
-/
import Derived.Test.YtmfmdehfbpkgdaaGreatDoorGEvC2
import Derived.Test.YtmfmdehfbpkgdaaGreatDoorGEvC3
import Derived.Lib.ItoaNum
import Derived.Test.YtmfmdehfbpkgdaaGreatDoorAvMap
import Derived.Test.YtmfmdehfbpkgdaaGreatDoorGEvC1
set_option maxRecDepth 100000
set_option maxHeartbeats 16000000
set_option linter.unusedVariables false
set_option linter.unusedSimpArgs false
set_option linter.unusedSectionVars false
namespace Go.Proofs.YtmfmdehfbpkgdaaGreatDoor
open Go Go.Av
attribute [local irreducible] HCode AOps PFn AFn Av.Step TStep
def scalOut (name : Str) (v : Val) : Val × Int :=
  if name = sInt then (if v.kind = 2 then (if v.n < -2147483648 ∨ 2147483647 < v.n then (val0, 8) else (v, 0)) else (val0, 7))
  else if name = sBoolean then (if v.kind = 1 then (v, 0) else (val0, 7))
  else if name = sID ∧ v.kind = 2 then (textV (Lib.itoa v.n), 0)
  else if name = sID ∨ name = sString then (if v.kind = 4 then (v, 0) else (val0, 7))
  else (val0, 7)
def outR (s : Sch) (name : Str) (v : Val) : Val × Int :=
  if allV good v = false ∨ leafB s name = false then (val0, 1)
  else if (findR s name).1.kind = 4 then (if v.kind = 4 ∧ v.s ∈ (findR s name).1.parts then (v, 0) else (val0, 7))
  else scalOut name v
theorem lOut (s : Sch) (name : Str) (v : Val) (hs : s.size ≤ 68719476736) (hv : v.size ≤ 68719476736) (h0 : -9223372036854775808 ≤ v.n) (h1 : v.n ≤ 9223372036854775807) :
    PFn Tryz.prog 118 [s.enc, .str name, v.enc] (.tup [(outR s name v).1.enc, .int .i64 (outR s name v).2]) := by
  have hg := vGood v hv
  have hl := dLeaf s name hs
  have hf := dFind s name hs
  have hsz := findR_size (name := name) hs
  have hi := formatInt v.n h0 h1
  have ht := text (Lib.itoa v.n)
  refine AFn.plain (by simp [AV.closed, AV.closedL, Val.closed]) (by simp [AV.closed, AV.closedL, Sch.closed, Val.closed]) (AFn.eR [.cell 6 38, .tmp 7] Tryz.func118 ?_)
  unfold outR
  cases c1 : allV good v with
  | false =>
    rw [c1] at hg
    rw [if_pos (.inl rfl)]
    refine .gob ?_
    exact FinR.ret1 rfl (Weak.tup (WeakL.cons weak_flatV (WeakL.refl _)))
  | true =>
    rw [c1] at hg
    cases c2 : leafB s name with
    | false =>
      rw [c2] at hl
      rw [if_pos (.inr rfl)]
      refine .gob ?_
      exact FinR.ret1 rfl (Weak.tup (WeakL.cons weak_flatV (WeakL.refl _)))
    | true =>
      rw [c2] at hl
      rw [if_neg (by simp)]
      generalize findR s name = fr at hf hsz
      obtain ⟨d, ok⟩ := fr
      simp only at hf hsz ⊢
      have hc := sContainsStr d.parts v.s (by omega)
      by_cases d4 : d.kind = 4
      · have e4 : (d.kind == 4) = true := by simp [d4]
        rw [if_pos d4]
        by_cases k4 : v.kind = 4
        · have q4 : (v.kind == 4) = true := by simp [k4]
          have q4' : (!(v.kind == 4)) = false := by simp [k4]
          by_cases hm : v.s ∈ d.parts
          · rw [decide_eq_true hm] at hc
            rw [if_pos ⟨k4, hm⟩]
            refine .gob ?_
            exact FinR.r0
          · rw [decide_eq_false hm] at hc
            rw [if_neg (fun h => hm h.2)]
            refine .gob ?_
            exact FinR.ret1 rfl (Weak.tup (WeakL.cons weak_flatV (WeakL.refl _)))
        · have q4 : (v.kind == 4) = false := by simp [k4]
          have q4' : (!(v.kind == 4)) = true := by simp [k4]
          rw [if_neg (fun h => k4 h.1)]
          refine .gob ?_
          exact FinR.ret1 rfl (Weak.tup (WeakL.cons weak_flatV (WeakL.refl _)))
      · have e4 : (d.kind == 4) = false := by simp [d4]
        rw [if_neg d4]
        unfold scalOut
        by_cases n1 : name = sInt
        · have b1 : (name == [73, 110, 116]) = true := by rw [n1]; rfl
          rw [if_pos n1]
          by_cases k2 : v.kind = 2
          · have q2 : (v.kind == 2) = true := by simp [k2]
            have q2' : (!(v.kind == 2)) = false := by simp [k2]
            rw [if_pos k2]
            by_cases hr : v.n < -2147483648 ∨ 2147483647 < v.n
            · rw [if_pos hr]
              rcases hr with hr | hr
              · have r1 : decide (v.n < -2147483648) = true := decide_eq_true hr
                refine .gob ?_
                exact FinR.ret1 rfl (Weak.tup (WeakL.cons weak_flatV (WeakL.refl _)))
              · have r1 : decide (v.n < -2147483648) = false := decide_eq_false (by omega)
                have r2 : decide (2147483647 < v.n) = true := decide_eq_true hr
                refine .gob ?_
                exact FinR.ret1 rfl (Weak.tup (WeakL.cons weak_flatV (WeakL.refl _)))
            · have r1 : decide (v.n < -2147483648) = false := decide_eq_false (by omega)
              have r2 : decide (2147483647 < v.n) = false := decide_eq_false (by omega)
              rw [if_neg hr]
              refine .gob ?_
              exact FinR.r0
          · have q2 : (v.kind == 2) = false := by simp [k2]
            have q2' : (!(v.kind == 2)) = true := by simp [k2]
            rw [if_neg k2]
            refine .gob ?_
            exact FinR.ret1 rfl (Weak.tup (WeakL.cons weak_flatV (WeakL.refl _)))
        · have b1 : (name == [73, 110, 116]) = false := by simpa [sInt] using n1
          rw [if_neg n1]
          by_cases n2 : name = sBoolean
          · have b2 : (name == [66, 111, 111, 108, 101, 97, 110]) = true := by rw [n2]; rfl
            rw [if_pos n2]
            by_cases k1 : v.kind = 1
            · have q1 : (v.kind == 1) = true := by simp [k1]
              have q1' : (!(v.kind == 1)) = false := by simp [k1]
              rw [if_pos k1]
              refine .gob ?_
              exact FinR.r0
            · have q1 : (v.kind == 1) = false := by simp [k1]
              have q1' : (!(v.kind == 1)) = true := by simp [k1]
              rw [if_neg k1]
              refine .gob ?_
              exact FinR.ret1 rfl (Weak.tup (WeakL.cons weak_flatV (WeakL.refl _)))
          · have b2 : (name == [66, 111, 111, 108, 101, 97, 110]) = false := by simpa [sBoolean] using n2
            rw [if_neg n2]
            by_cases n3 : name = sID
            · have b3 : (name == [73, 68]) = true := by rw [n3]; rfl
              have b3' : (name != [73, 68]) = false := by rw [n3]; rfl
              by_cases k2 : v.kind = 2
              · have q2 : (v.kind == 2) = true := by simp [k2]
                have q2' : (!(v.kind == 2)) = false := by simp [k2]
                rw [if_pos ⟨n3, k2⟩]
                refine .gob ?_
                exact FinR.r0
              · have q2 : (v.kind == 2) = false := by simp [k2]
                have q2' : (!(v.kind == 2)) = true := by simp [k2]
                rw [if_neg (fun h => k2 h.2), if_pos (.inl n3)]
                by_cases k4 : v.kind = 4
                · have q4 : (v.kind == 4) = true := by simp [k4]
                  have q4' : (!(v.kind == 4)) = false := by simp [k4]
                  rw [if_pos k4]
                  refine .gob ?_
                  exact FinR.r0
                · have q4 : (v.kind == 4) = false := by simp [k4]
                  have q4' : (!(v.kind == 4)) = true := by simp [k4]
                  rw [if_neg k4]
                  refine .gob ?_
                  exact FinR.ret1 rfl (Weak.tup (WeakL.cons weak_flatV (WeakL.refl _)))
            · have b3 : (name == [73, 68]) = false := by simpa [sID] using n3
              have b3' : (name != [73, 68]) = true := by simpa [sID] using n3
              rw [if_neg (fun h => n3 h.1)]
              by_cases n4 : name = sString
              · have b4 : (name != [83, 116, 114, 105, 110, 103]) = false := by rw [n4]; rfl
                rw [if_pos (.inr n4)]
                by_cases k4 : v.kind = 4
                · have q4 : (v.kind == 4) = true := by simp [k4]
                  have q4' : (!(v.kind == 4)) = false := by simp [k4]
                  rw [if_pos k4]
                  refine .gob ?_
                  exact FinR.r0
                · have q4 : (v.kind == 4) = false := by simp [k4]
                  have q4' : (!(v.kind == 4)) = true := by simp [k4]
                  rw [if_neg k4]
                  refine .gob ?_
                  exact FinR.ret1 rfl (Weak.tup (WeakL.cons weak_flatV (WeakL.refl _)))
              · have b4 : (name != [83, 116, 114, 105, 110, 103]) = true := by simpa [sString] using n4
                rw [if_neg (fun h => h.elim n3 n4)]
                refine .gob ?_
                exact FinR.ret1 rfl (Weak.tup (WeakL.cons weak_flatV (WeakL.refl _)))
end Go.Proofs.YtmfmdehfbpkgdaaGreatDoor
namespace Go.Proofs.YtmfmdehfbpkgdaaGreatDoor
open Go Go.Av
theorem every_iff {s : Sch} {f : Dfn → Bool} : everyB s f = true ↔ ∀ d ∈ s.defs, f d = true := by
  unfold everyB
  simp only [Bool.not_eq_true', List.any_eq_false, Bool.not_eq_true, Bool.not_eq_false', Bool.not_eq_false]
inductive Reach (next : Str → List Str) (l0 : List Str) : Str → Prop where
  | base {x : Str} : x ∈ l0 → Reach next l0 x
  | step {x y : Str} : Reach next l0 x → y ∈ next x → Reach next l0 y
def cntU (U l : List Str) : Nat := U.countP fun u => !decide (u ∈ l)
theorem mem_addNew {l : List Str} {x y : Str} : y ∈ addNew l x ↔ y ∈ l ∨ y = x := by
  unfold addNew
  split
  · constructor
    · exact .inl
    · rintro (h | rfl) <;> assumption
  · simp
theorem mem_addAll {xs l : List Str} {y : Str} : y ∈ xs.foldl addNew l ↔ y ∈ l ∨ y ∈ xs := by
  induction xs generalizing l with
  | nil => simp
  | cons x xs ih => rw [List.foldl_cons, ih, mem_addNew]; simp [or_assoc]
theorem addNew_pre (l : List Str) (x : Str) : ∃ r, addNew l x = l ++ r := by
  unfold addNew
  split
  · exact ⟨[], by simp⟩
  · exact ⟨[x], rfl⟩
theorem addAll_pre (xs l : List Str) : ∃ r, xs.foldl addNew l = l ++ r := by
  induction xs generalizing l with
  | nil => exact ⟨[], by simp⟩
  | cons x xs ih =>
    obtain ⟨r1, h1⟩ := addNew_pre l x
    obtain ⟨r2, h2⟩ := ih (addNew l x)
    exact ⟨r1 ++ r2, by rw [List.foldl_cons, h2, h1, List.append_assoc]⟩
theorem cnt_new {U l : List Str} {x : Str} (hx : x ∈ U) (hn : x ∉ l) : cntU U (l ++ [x]) + 1 ≤ cntU U l := by
  unfold cntU
  induction U with
  | nil => simp at hx
  | cons u U ih =>
    have mono : ∀ V : List Str, V.countP (fun u => !decide (u ∈ l ++ [x])) ≤ V.countP (fun u => !decide (u ∈ l)) := fun V => by
      apply List.countP_mono_left
      intro v _ h
      simp at h ⊢
      exact h.1
    rw [List.countP_cons, List.countP_cons]
    by_cases e : u = x
    · subst e
      have := mono U
      simp [hn]; simpa using this
    · have hU : x ∈ U := by
        rcases List.mem_cons.1 hx with h | h
        · exact absurd h.symm e
        · exact h
      have := ih hU
      have e2 : (!decide (u ∈ l ++ [x])) = (!decide (u ∈ l)) := by simp [e]
      rw [e2]; omega
theorem cnt_addNew {U l : List Str} {x : Str} (hx : x ∈ U) : cntU U (addNew l x) + (addNew l x).length ≤ cntU U l + l.length := by
  unfold addNew
  split
  · exact Nat.le_refl _
  · rename_i h
    have := cnt_new hx h
    rw [List.length_append, List.length_singleton]; omega
theorem cnt_addAll {U xs l : List Str} (h : ∀ x ∈ xs, x ∈ U) : cntU U (xs.foldl addNew l) + (xs.foldl addNew l).length ≤ cntU U l + l.length := by
  induction xs generalizing l with
  | nil => exact Nat.le_refl _
  | cons x xs ih =>
    rw [List.foldl_cons]
    exact Nat.le_trans (ih fun y hy => h y (List.mem_cons_of_mem _ hy)) (cnt_addNew (h x (List.mem_cons_self ..)))
theorem cnt_le (U l : List Str) : cntU U l ≤ U.length := List.countP_le_length ..
theorem closeF_sub (next : Str → List Str) : ∀ (n i : Nat) (l : List Str), ∃ r, closeF next n i l = l ++ r
  | 0, _, l => ⟨[], by rw [closeF]; simp⟩
  | n + 1, i, l => by
    rw [closeF]
    split
    · exact ⟨[], by simp⟩
    · rename_i x _
      obtain ⟨r1, h1⟩ := addAll_pre (next x) l
      obtain ⟨r2, h2⟩ := closeF_sub next n (i + 1) ((next x).foldl addNew l)
      exact ⟨r1 ++ r2, by rw [h2, h1, List.append_assoc]⟩
theorem closeF_reach (next : Str → List Str) (l0 : List Str) : ∀ (n i : Nat) (l : List Str), (∀ x ∈ l, Reach next l0 x) → ∀ x ∈ closeF next n i l, Reach next l0 x
  | 0, _, l, h, x, hx => h x (by rwa [closeF] at hx)
  | n + 1, i, l, h, x, hx => by
    rw [closeF] at hx
    split at hx
    · exact h x hx
    · rename_i y hy
      refine closeF_reach next l0 n (i + 1) _ (fun z hz => ?_) x hx
      rcases mem_addAll.1 hz with h1 | h1
      · exact h z h1
      · exact .step (h y (List.mem_of_getElem? hy)) h1
theorem closeF_closed (next : Str → List Str) (U : List Str) (hU : ∀ x, ∀ y ∈ next x, y ∈ U) : ∀ (n i : Nat) (l : List Str), (∀ (j : Nat) (x : Str), j < i → l[j]? = some x → ∀ y ∈ next x, y ∈ l) → cntU U l + l.length ≤ n + i →
    ∀ x ∈ closeF next n i l, ∀ y ∈ next x, y ∈ closeF next n i l
  | 0, i, l, h, hb, x, hx, y, hy => by
    rw [closeF] at hx ⊢
    obtain ⟨j, hj, rfl⟩ := List.getElem_of_mem hx
    exact h j _ (by omega) (List.getElem?_eq_getElem hj) y hy
  | n + 1, i, l, h, hb, x, hx, y, hy => by
    rw [closeF] at hx ⊢
    split at hx
    · rename_i e
      obtain ⟨j, hj, rfl⟩ := List.getElem_of_mem hx
      have := List.getElem?_eq_none_iff.1 e
      exact h j _ (by omega) (List.getElem?_eq_getElem hj) y hy
    · rename_i z hz
      obtain ⟨r, hr⟩ := addAll_pre (next z) l
      refine closeF_closed next U hU n (i + 1) _ (fun j w hj hw v hv => ?_) (by have := cnt_addAll (l := l) (hU z); omega) x hx y hy
      by_cases e : j = i
      · subst e
        have : (l ++ r)[j]? = some z := by rw [List.getElem?_append_left (List.getElem?_eq_some_iff.1 hz).1, hz]
        rw [hr, this] at hw
        cases hw
        exact mem_addAll.2 (.inr hv)
      · have hl : j < l.length := by have := (List.getElem?_eq_some_iff.1 hz).1; omega
        rw [hr, List.getElem?_append_left hl] at hw
        exact mem_addAll.2 (.inl (h j w (by omega) hw v hv))
theorem closeF_iff {next : Str → List Str} {U l0 : List Str} {N : Nat} (hU : ∀ x, ∀ y ∈ next x, y ∈ U) (hN : cntU U l0 + l0.length ≤ N) (y : Str) : y ∈ closeF next N 0 l0 ↔ Reach next l0 y := by
  constructor
  · exact closeF_reach next l0 N 0 l0 (fun x hx => .base hx) y
  · intro h
    induction h with
    | base h =>
      obtain ⟨r, hr⟩ := closeF_sub next N 0 l0
      rw [hr]; exact List.mem_append_left _ h
    | step _ hy ih => exact closeF_closed next U hU N 0 l0 (fun j x hj => absurd hj (Nat.not_lt_zero _)) (by omega) _ ih _ hy
theorem Reach.mono {n1 n2 : Str → List Str} {l1 l2 : List Str} (hl : ∀ x ∈ l1, x ∈ l2) (hn : ∀ x, ∀ y ∈ n1 x, y ∈ n2 x) {x : Str} (h : Reach n1 l1 x) : Reach n2 l2 x := by
  induction h with
  | base h => exact .base (hl _ h)
  | step _ hy ih => exact .step ih (hn _ _ hy)
theorem needFold {s : Sch} {ps : List Par} {l : List Str} {y : Str} : y ∈ ps.foldl (needAdd s) l ↔ y ∈ l ∨ ∃ p ∈ ps, needP s p = true ∧ p.t.name = y := by
  induction ps generalizing l with
  | nil => simp
  | cons p ps ih =>
    rw [List.foldl_cons, ih]
    unfold needAdd
    split
    · rename_i h
      rw [mem_addNew]
      constructor
      · rintro ((h1 | h1) | ⟨q, hq, h2⟩)
        · exact .inl h1
        · exact .inr ⟨p, List.mem_cons_self .., h, h1.symm⟩
        · exact .inr ⟨q, List.mem_cons_of_mem _ hq, h2⟩
      · rintro (h1 | ⟨q, hq, h2, h3⟩)
        · exact .inl (.inl h1)
        · rcases List.mem_cons.1 hq with rfl | hq
          · exact .inl (.inr h3.symm)
          · exact .inr ⟨q, hq, h2, h3⟩
    · rename_i h
      constructor
      · rintro (h1 | ⟨q, hq, h2⟩)
        · exact .inl h1
        · exact .inr ⟨q, List.mem_cons_of_mem _ hq, h2⟩
      · rintro (h1 | ⟨q, hq, h2, h3⟩)
        · exact .inl h1
        · rcases List.mem_cons.1 hq with rfl | hq
          · exact absurd h2 h
          · exact .inr ⟨q, hq, h2, h3⟩
theorem mem_needsP {s : Sch} {name y : Str} : y ∈ needsP s name ↔ ∃ p ∈ (findR s name).1.params, needP s p = true ∧ p.t.name = y := by
  unfold needsP; rw [needFold]; simp
theorem findR_params {s : Sch} {name : Str} {p : Par} (h : p ∈ (findR s name).1.params) : (findR s name).1 ∈ s.defs := by
  rcases findR_in s name with h1 | h1 | h1
  · exact h1
  · rw [h1] at h; simp at h
  · rw [h1] at h; simp [zeroD] at h
theorem params_all {s : Sch} {name : Str} {p : Par} (h : p ∈ (findR s name).1.params) : p.t.name ∈ allTs s :=
  List.mem_flatMap.2 ⟨_, findR_params h, List.mem_map.2 ⟨p, h, rfl⟩⟩
theorem needsP_all {s : Sch} (x : Str) : ∀ y ∈ needsP s x, y ∈ allTs s := fun y hy => by
  obtain ⟨p, hp, _, rfl⟩ := mem_needsP.1 hy
  exact params_all hp
theorem needFold_cnt {s : Sch} {U : List Str} {ps : List Par} {l : List Str} (h : ∀ p ∈ ps, p.t.name ∈ U) : cntU U (ps.foldl (needAdd s) l) + (ps.foldl (needAdd s) l).length ≤ cntU U l + l.length := by
  induction ps generalizing l with
  | nil => exact Nat.le_refl _
  | cons p ps ih =>
    rw [List.foldl_cons]
    refine Nat.le_trans (ih fun q hq => h q (List.mem_cons_of_mem _ hq)) ?_
    unfold needAdd
    split
    · exact cnt_addNew (h p (List.mem_cons_self ..))
    · exact Nat.le_refl _
theorem needsP_cnt (s : Sch) (name : Str) : cntU (allTs s) (needsP s name) + (needsP s name).length ≤ (allTs s).length := by
  refine Nat.le_trans (needFold_cnt fun p hp => params_all hp) ?_
  have := cnt_le (allTs s) []
  simpa using this
theorem rings_iff {s : Sch} {name : Str} : ringsB s name = true ↔ Reach (needsP s) (needsP s name) name := by
  unfold ringsB
  rw [decide_eq_true_eq, closeF_iff needsP_all (needsP_cnt s name)]
def needRP (s : Sch) (p : Par) : Bool := decide (p.t.lists = 0) && (decide (p.t.musts = 1) && kindB s p.t.name [5])
def needsR (s : Sch) (name : Str) : List Str := if (findR s name).1.kind = 5 then ((findR s name).1.params.filter (needRP s)).map fun p => p.t.name else []
def ringR (s : Sch) (name : Str) : Bool := decide (name ∈ closeF (needsR s) ((needsR s name).length + (allTs s).length) 0 (needsR s name))
def openR (s : Sch) : Bool := !s.defs.any fun d => ringR s d.name
theorem needsR_all {s : Sch} (x : Str) : ∀ y ∈ needsR s x, y ∈ allTs s := fun y hy => by
  unfold needsR at hy
  split at hy
  · obtain ⟨p, hp, rfl⟩ := List.mem_map.1 hy
    exact params_all (List.mem_filter.1 hp).1
  · simp at hy
theorem ringR_iff {s : Sch} {name : Str} : ringR s name = true ↔ Reach (needsR s) (needsR s name) name := by
  unfold ringR
  rw [decide_eq_true_eq, closeF_iff needsR_all (by have := cnt_le (allTs s) (needsR s name); omega)]
theorem named_iff {s : Sch} : namedB s = true ↔ sdlOk s = true ∧ (dNames s).Nodup ∧ (∀ n ∈ dNames s, own2 n = false) ∧ ∀ n ∈ dNames s, kindB s n [0] = false := by
  unfold namedB onceB foreignB
  simp only [Bool.and_eq_true, decide_eq_true_eq, Bool.not_eq_true', List.any_eq_false, Bool.not_eq_true]
theorem sdl_dfn {s : Sch} (h : sdlOk s = true) {d : Dfn} (hd : d ∈ s.defs) : dfnOk d = true := by
  unfold sdlOk at h
  simp only [Bool.and_eq_true, List.all_eq_true] at h
  exact h.2.2 d hd
theorem nodup_find {l : List Dfn} {d : Dfn} (hn : (l.map Dfn.name).Nodup) (hd : d ∈ l) : l.find? (fun x => x.name == d.name) = some d := by
  induction l with
  | nil => simp at hd
  | cons x l ih =>
    rw [List.map_cons, List.nodup_cons] at hn
    rw [List.find?_cons]
    rcases List.mem_cons.1 hd with rfl | hd
    · simp
    · have : (x.name == d.name) = false := by
        rw [beq_eq_false_iff_ne]
        intro e
        exact hn.1 (List.mem_map.2 ⟨d, hd, e.symm⟩)
      rw [this]
      exact ih hn.2 hd
theorem named_find {s : Sch} (h : namedB s = true) {d : Dfn} (hd : d ∈ s.defs) : findO s d.name = some d := by
  obtain ⟨h1, h2, h3, h4⟩ := named_iff.1 h
  have hm : d.name ∈ dNames s := List.mem_map.2 ⟨d, hd, rfl⟩
  have hk := h4 _ hm
  unfold findO
  split
  · rename_i hs
    unfold kindB findR findO at hk
    rw [if_pos hs] at hk
    simp at hk
  · exact nodup_find h2 hd
theorem named_findR {s : Sch} (h : namedB s = true) {d : Dfn} (hd : d ∈ s.defs) : findR s d.name = (d, true) := by rw [findR, named_find h hd]
theorem dfnOk_params {d : Dfn} (h : dfnOk d = true) : (d.params = [] ∨ d.kind = 5) ∧ d.params.all parOk = true := by
  unfold dfnOk at h
  split at h
  · simp only [Bool.and_eq_true, decide_eq_true_eq] at h
    rw [h.1.2.2]; simp
  · split at h
    · simp only [Bool.and_eq_true, decide_eq_true_eq] at h
      rw [h.1.2.2.2]; simp
    · split at h
      · simp only [Bool.and_eq_true, decide_eq_true_eq] at h
        rw [h.1.2.2.2]; simp
      · split at h
        · rename_i k5
          simp only [Bool.and_eq_true] at h
          exact ⟨.inr k5, h.2.2⟩
        · cases h
theorem dfnOk_faces {d : Dfn} (h : dfnOk d = true) (hf : d.faces ≠ []) : d.kind = 1 ∨ d.kind = 2 := by
  unfold dfnOk at h
  split at h
  · assumption
  · split at h
    · simp only [Bool.and_eq_true, decide_eq_true_eq] at h
      exact absurd h.1.2.1 hf
    · split at h
      · simp only [Bool.and_eq_true, decide_eq_true_eq] at h
        exact absurd h.1.2.1 hf
      · split at h
        · simp only [Bool.and_eq_true, decide_eq_true_eq] at h
          exact absurd h.1.2.1 hf
        · cases h
theorem needs_same {s : Sch} (h : namedB s = true) (x y : Str) : y ∈ needsP s x ↔ y ∈ needsR s x := by
  rw [mem_needsP]
  have h1 := (named_iff.1 h).1
  have key : ∀ p ∈ (findR s x).1.params, needP s p = needRP s p ∧ (findR s x).1.kind = 5 := fun p hp => by
    obtain ⟨h2, h3⟩ := dfnOk_params (sdl_dfn h1 (findR_params hp))
    have h4 := List.all_eq_true.1 h3 p hp
    refine ⟨?_, h2.resolve_left fun e => by rw [e] at hp; simp at hp⟩
    unfold parOk at h4
    simp only [Bool.and_eq_true] at h4
    have hr := h4.2.1
    unfold needP needRP isT
    rw [hr, Bool.true_and]
    by_cases hl : p.t.lists = 0
    · have hm := (rightT_iff.1 hr).2.2.2
      rw [hl] at hm
      have : decide (p.t.musts % 2 = 1) = decide (p.t.musts = 1) := by
        rw [Bool.eq_iff_iff, decide_eq_true_eq, decide_eq_true_eq]
        have h0 := hm.1
        have h2 : p.t.musts < 2 := hm.2
        omega
      rw [this]
    · simp [hl]
  constructor
  · rintro ⟨p, hp, h2, h3⟩
    obtain ⟨e, k⟩ := key p hp
    unfold needsR
    rw [if_pos k]
    exact List.mem_map.2 ⟨p, List.mem_filter.2 ⟨hp, e ▸ h2⟩, h3⟩
  · intro hy
    unfold needsR at hy
    split at hy
    · obtain ⟨p, hp, rfl⟩ := List.mem_map.1 hy
      obtain ⟨hp1, hp2⟩ := List.mem_filter.1 hp
      exact ⟨p, hp1, (key p hp1).1 ▸ hp2, rfl⟩
    · simp at hy
theorem openR_eq {s : Sch} (h : namedB s = true) : openR s = openB s := by
  unfold openR openB everyB
  congr 1
  rw [Bool.eq_iff_iff, List.any_eq_true, List.any_eq_true]
  have key : ∀ d ∈ s.defs, (ringR s d.name = true ↔ (!open1 s d) = true) := fun d hd => by
    unfold open1
    have e1 : ringR s d.name = true ↔ ringsB s d.name = true := by
      rw [ringR_iff, rings_iff]
      exact ⟨Reach.mono (fun x hx => (needs_same h _ x).2 hx) (fun x y hy => (needs_same h x y).2 hy), Reach.mono (fun x hx => (needs_same h _ x).1 hx) (fun x y hy => (needs_same h x y).1 hy)⟩
    rw [e1]
    by_cases k : d.kind = 5
    · simp [k]
    · have : ringsB s d.name = false := by
        rw [Bool.eq_false_iff]
        intro hr
        rw [← e1, ringR_iff] at hr
        have e0 : needsR s d.name = [] := by unfold needsR; rw [named_findR h hd, if_neg k]
        have aux : ∀ x, Reach (needsR s) [] x → False := fun x hx => by
          induction hx with
          | base h => simp at h
          | step _ _ ih => exact ih
        rw [e0] at hr
        exact aux _ hr
      simp [k, this]
  exact ⟨fun ⟨d, hd, h1⟩ => ⟨d, hd, (key d hd).1 h1⟩, fun ⟨d, hd, h1⟩ => ⟨d, hd, (key d hd).2 h1⟩⟩
def sTypename : Str := [95, 95, 116, 121, 112, 101, 110, 97, 109, 101]
def fieldO (s : Sch) (typ name : Str) : Option Fld :=
  if name = sTypename ∧ compB s typ = true then some ⟨name, [], ⟨sString, 0, 1⟩, []⟩ else if (findR s typ).1.kind = 1 ∨ (findR s typ).1.kind = 2 then fldO (findR s typ).1.fields name else none
def hasR (s : Sch) (d : Dfn) (face : Str) : Bool := (findR s face).1.fields.all fun g => match fieldO s d.name g.name with | none => false | some f => subB s f.t g.t && takesB f g
def keptR (s : Sch) : Bool := s.defs.all fun d => d.faces.all (hasR s d)
theorem single_fields {s : Sch} (h : soleB s = true) {d : Dfn} (hd : d ∈ s.defs) : goodNames (d.fields.map Fld.name) = true ∧ goodNames (d.params.map Par.name) = true ∧ onceB d.parts = true ∧ onceB d.faces = true ∧ ∀ f ∈ d.fields, goodNames (f.params.map Par.name) = true := by
  have h0 : sole1 d = true := every_iff.1 h d hd
  unfold sole1 at h0
  simp only [Bool.and_eq_true, Bool.not_eq_true', List.any_eq_false, Bool.not_eq_true, Bool.not_eq_false', Bool.not_eq_false] at h0
  obtain ⟨h1, h2, h3, h4, h5⟩ := h0
  exact ⟨h1, h2, h3, h4, h5⟩
theorem good_own {l : List Str} (h : goodNames l = true) : l.Nodup ∧ ∀ x ∈ l, own2 x = false := by
  unfold goodNames onceB foreignB at h
  simp only [Bool.and_eq_true, decide_eq_true_eq, Bool.not_eq_true', List.any_eq_false, Bool.not_eq_true] at h
  exact h
theorem keptR_eq {s : Sch} (h : namedB s = true) (h3 : soleB s = true) : keptR s = keptB s := by
  unfold keptR keptB everyB kept1
  rw [Bool.eq_iff_iff, List.all_eq_true]
  simp only [Bool.not_eq_true', List.any_eq_false, Bool.not_eq_true, Bool.not_eq_false', Bool.not_eq_false, List.all_eq_true, List.any_eq_true, not_exists, not_and]
  have key : ∀ d ∈ s.defs, ∀ n ∈ d.faces, hasR s d n = hasB s d n := fun d hd n hn => by
    unfold hasR hasB
    have hk := dfnOk_faces (sdl_dfn (named_iff.1 h).1 hd) (List.ne_nil_of_mem hn)
    rw [Bool.eq_iff_iff, List.all_eq_true, List.all_eq_true]
    have inner : ∀ g ∈ (findR s n).1.fields, fieldO s d.name g.name = fldO d.fields g.name := fun g hg => by
      have hx : (findR s n).1 ∈ s.defs := by
        rcases findR_in s n with h1 | h1 | h1
        · exact h1
        · rw [h1] at hg; simp at hg
        · rw [h1] at hg; simp [zeroD] at hg
      have ho := (good_own (single_fields h3 hx).1).2 g.name (List.mem_map.2 ⟨g, hg, rfl⟩)
      unfold fieldO
      rw [if_neg (by rintro ⟨e, _⟩; rw [e] at ho; exact absurd ho (by decide)), named_findR h hd, if_pos hk]
    exact ⟨fun h1 g hg => by rw [← inner g hg]; exact h1 g hg, fun h1 g hg => by rw [inner g hg]; exact h1 g hg⟩
  constructor
  · intro h1 d hd n hn
    rw [← key d hd n hn, h1 d hd n hn]
  · intro h1 d hd n hn
    rw [key d hd n hn]; simpa using h1 d hd n hn
def ruleR (s : Sch) (n : Int) : Bool := if n = 6 then keptR s else if n = 8 then openR s else ruleB s n
def checkRF (s : Sch) : Nat → Int → Int
  | 0, _ => 0
  | k + 1, n => if ruleR s n = true then checkRF s k (n + 1) else n
theorem checkR_eq (s : Sch) : checkRF s 9 1 = checkI s := by
  have e1 : ruleR s 1 = namedB s := rfl
  have f1 : ruleB s 1 = namedB s := rfl
  have e2 : ruleR s 2 = rootsB s := rfl
  have f2 : ruleB s 2 = rootsB s := rfl
  have e3 : ruleR s 3 = soleB s := rfl
  have f3 : ruleB s 3 = soleB s := rfl
  have e4 : ruleR s 4 = ruleB s 4 := rfl
  have e5 : ruleR s 5 = ruleB s 5 := rfl
  have e6 : ruleR s 6 = keptR s := rfl
  have f6 : ruleB s 6 = keptB s := rfl
  have e7 : ruleR s 7 = ruleB s 7 := rfl
  have e8 : ruleR s 8 = openR s := rfl
  have f8 : ruleB s 8 = openB s := rfl
  have e9 : ruleR s 9 = ruleB s 9 := rfl
  unfold checkI
  simp only [checkRF, checkF, Int.reduceAdd, e1, f1, e2, f2, e3, f3, e4, e5, e6, f6, e7, e8, f8, e9]
  by_cases h1 : namedB s = true
  · by_cases h3 : soleB s = true
    · rw [keptR_eq h1 h3, openR_eq h1]
    · simp only [if_neg h3]
  · simp only [if_neg h1]
section
variable {s s' : Sch} (hf : ∀ n, findO s' n = findO s n)
include hf
end
theorem find_named {s : Sch} {n : Str} {d : Dfn} (h : findO s n = some d) (hk : d.kind ≠ 0) : d ∈ s.defs ∧ d.name = n := by
  unfold findO at h
  split at h
  · cases h; exact absurd rfl hk
  · exact ⟨List.mem_of_find?_eq_some h, by simpa using List.find?_some h⟩
end Go.Proofs.YtmfmdehfbpkgdaaGreatDoor
namespace Go.Proofs.YtmfmdehfbpkgdaaGreatDoor
open Go Go.Av
def zeroF : Fld := ⟨[], [], ⟨[], 0, 0⟩, []⟩
def fieldR (s : Sch) (typ name : Str) : Fld × Bool := match fieldO s typ name with
  | none => (zeroF, false)
  | some f => (f, true)
structure Bnd where
  how : Int
  table : Str
  col : Str
  arg : Str
  cmd : Str
  deriving DecidableEq
def Bnd.enc (b : Bnd) : AV := .agg [.int .i64 b.how, .str b.table, .str b.col, .str b.arg, .str b.cmd]
theorem Bnd.closed (b : Bnd) : b.enc.closed = true := rfl
def bnd0 : Bnd := ⟨0, [], [], [], []⟩
def textsF (l : List Mem) : List Str → Option (List Str)
  | [] => some []
  | n :: ns => if (getG n l).2 = true ∧ (getG n l).1.kind = 4 ∧ (getG n l).1.s ≠ [] then (textsF l ns).map ((getG n l).1.s :: ·) else none
def textsO (l : List Mem) (ns : List Str) : Option (List Str) := if l.length = ns.length then textsF l ns else none
theorem textsF_len (l : List Mem) : ∀ (ns xs : List Str), textsF l ns = some xs → xs.length = ns.length ∧ ∀ x ∈ xs, x ≠ []
  | [], xs, h => by cases h; simp
  | n :: ns, xs, h => by
    rw [textsF] at h
    split at h
    · rename_i c
      cases e : textsF l ns with
      | none => rw [e] at h; cases h
      | some ys =>
        rw [e] at h
        cases h
        obtain ⟨a, b⟩ := textsF_len l ns ys e
        refine ⟨by simp [a], fun x hx => ?_⟩
        rcases List.mem_cons.1 hx with rfl | hx
        · exact c.2.2
        · exact b x hx
    · cases h
theorem textsO_len {l : List Mem} {ns xs : List Str} (h : textsO l ns = some xs) : xs.length = ns.length ∧ ∀ x ∈ xs, x ≠ [] := by
  unfold textsO at h
  split at h
  · exact textsF_len l ns xs h
  · cases h
theorem textsO_one {l : List Mem} {a : Str} {xs : List Str} (h : textsO l [a] = some xs) : ∃ x, xs = [x] ∧ x ≠ [] := by
  obtain ⟨h1, h2⟩ := textsO_len h
  match xs, h1 with
  | [x], _ => exact ⟨x, rfl, h2 x (by simp)⟩
theorem textsO_two {l : List Mem} {a b : Str} {xs : List Str} (h : textsO l [a, b] = some xs) : ∃ x y, xs = [x, y] ∧ x ≠ [] ∧ y ≠ [] := by
  obtain ⟨h1, h2⟩ := textsO_len h
  match xs, h1 with
  | [x, y], _ => exact ⟨x, y, rfl, h2 x (by simp), h2 y (by simp)⟩
theorem textsO_three {l : List Mem} {a b c : Str} {xs : List Str} (h : textsO l [a, b, c] = some xs) : ∃ x y z, xs = [x, y, z] ∧ x ≠ [] ∧ y ≠ [] ∧ z ≠ [] := by
  obtain ⟨h1, h2⟩ := textsO_len h
  match xs, h1 with
  | [x, y, z], _ => exact ⟨x, y, z, rfl, h2 x (by simp), h2 y (by simp), h2 z (by simp)⟩
def sCol : Str := [99, 111, 108]
def sLink : Str := [108, 105, 110, 107]
def sGet : Str := [103, 101, 116]
def sDo : Str := [100, 111]
def sName : Str := [110, 97, 109, 101]
def sTable : Str := [116, 97, 98, 108, 101]
def sArg : Str := [97, 114, 103]
def sCmd : Str := [99, 109, 100]
def sAdd : Str := [97, 100, 100]
def sPut : Str := [112, 117, 116]
def sCut : Str := [99, 117, 116]
def sBurn : Str := [98, 117, 114, 110]
def getB (f : Fld) (table arg : Str) : Bnd × Bool := match parO f.params arg with
  | none => (bnd0, false)
  | some p => if (p.t.name = sID ∨ p.t.name = sString) ∧ p.t.lists = f.t.lists then (⟨2, table, [], arg, []⟩, true) else (bnd0, false)
def doB (l : List Mem) : Bnd × Bool := match textsO l [sCmd, sTable, sCol] with
  | some [a, b, c] => (⟨3, b, c, [], a⟩, a == sAdd)
  | _ => match textsO l [sCmd, sTable] with
    | some [a, b] => (⟨3, b, [], [], a⟩, a == sPut || (a == sCut || a == sBurn))
    | _ => (bnd0, false)
def dirB (f : Fld) (d : Dirc) : Bnd × Bool :=
  if d.name = sCol then (match textsO d.args [sName] with | some [a] => (⟨0, [], a, [], []⟩, true) | _ => (bnd0, false))
  else if d.name = sLink then (match textsO d.args [sTable, sCol] with | some [a, b] => (⟨1, a, b, [], []⟩, true) | _ => (bnd0, false))
  else if d.name = sGet then (match textsO d.args [sTable, sArg] with | some [a, b] => getB f a b | _ => (bnd0, false))
  else if d.name = sDo then doB d.args else (bnd0, false)
def saidB (f : Fld) : Bnd × Bool := match f.dirs with
  | [] => (⟨0, [], f.name, [], []⟩, true)
  | [d] => dirB f d
  | _ => (bnd0, false)
def changesB (s : Sch) (typ : Str) : Bool := s.mutation != [] && typ == s.mutation
def rowsB (s : Sch) (name : Str) : Bool := compB s name && !(s.mutation != [] && decide (s.mutation ∈ possB s name))
def fitB (s : Sch) (typ : Str) (f : Fld) (how : Int) : Bool :=
  if how = 0 then leafB s f.t.name && !changesB s typ
  else if how = 3 then decide (f.t.lists = 0) && ((leafB s f.t.name || rowsB s f.t.name) && changesB s typ)
  else rowsB s f.t.name && !changesB s typ
def ofB (s : Sch) (typ : Str) (f : Fld) : Bnd × Bool := if (saidB f).2 = true ∧ f.name ≠ sTypename ∧ fitB s typ f (saidB f).1.how = true then ((saidB f).1, true) else (bnd0, false)
def bound1 (s : Sch) (d : Dfn) : Bool := d.kind == 1 && d.fields.any fun f => !(ofB s d.name f).2
def servedB (s : Sch) : Bool := decide (checkI s = 0) && !s.defs.any (bound1 s)
theorem said_how {f : Fld} (h : (saidB f).2 = true) : ((saidB f).1.how = 0 ∨ (saidB f).1.how = 1 ∨ (saidB f).1.how = 2 ∨ (saidB f).1.how = 3) ∧ ((saidB f).1.how = 1 ∨ (saidB f).1.how = 2 → (saidB f).1.table ≠ []) ∧
    ((saidB f).1.how = 2 → ∃ p ∈ f.params, p.name = (saidB f).1.arg ∧ p.t.lists = f.t.lists ∧ (p.t.name = sID ∨ p.t.name = sString)) := by
  unfold saidB at h ⊢
  split at h
  · simp_all
  · rename_i d hd
    unfold dirB at h ⊢
    split at h
    · rename_i c; rw [if_pos c]
      cases e : textsO d.args [sName] with
      | none => rw [e] at h; cases h
      | some xs => obtain ⟨x, rfl, _⟩ := textsO_one e; simp
    rename_i c1; rw [if_neg c1]
    split at h
    · rename_i c; rw [if_pos c]
      cases e : textsO d.args [sTable, sCol] with
      | none => rw [e] at h; cases h
      | some xs => obtain ⟨x, y, rfl, hx, hy⟩ := textsO_two e; simp [hx]
    rename_i c2; rw [if_neg c2]
    split at h
    · rename_i c; rw [if_pos c]
      cases e : textsO d.args [sTable, sArg] with
      | none => rw [e] at h; cases h
      | some xs =>
        obtain ⟨x, y, rfl, hx, hy⟩ := textsO_two e
        rw [e] at h
        dsimp only at h ⊢
        unfold getB at h ⊢
        cases ep : parO f.params y with
        | none => rw [ep] at h; cases h
        | some p =>
          rw [ep] at h
          dsimp only at h ⊢
          by_cases cc : (p.t.name = sID ∨ p.t.name = sString) ∧ p.t.lists = f.t.lists
          · rw [if_pos cc]
            refine ⟨.inr (.inr (.inl rfl)), fun _ => hx, fun _ => ⟨p, List.mem_of_find?_eq_some ep, by simpa using List.find?_some ep, cc.2, cc.1⟩⟩
          · rw [if_neg cc] at h; cases h
    rename_i c3; rw [if_neg c3]
    split at h
    · rename_i c; rw [if_pos c]
      have hd : (doB d.args).2 = true → (doB d.args).1.how = 3 := by
        unfold doB
        cases e : textsO d.args [sCmd, sTable, sCol] with
        | some xs => obtain ⟨x, y, z, rfl, _⟩ := textsO_three e; exact fun _ => rfl
        | none =>
          dsimp only
          cases e2 : textsO d.args [sCmd, sTable] with
          | some xs => obtain ⟨x, y, rfl, _⟩ := textsO_two e2; exact fun _ => rfl
          | none => intro h; cases h
      have := hd h
      omega
    · cases h
  · cases h
theorem of_said {s : Sch} {typ : Str} {f : Fld} (h : (ofB s typ f).2 = true) : (saidB f).2 = true ∧ (ofB s typ f).1 = (saidB f).1 ∧ fitB s typ f (ofB s typ f).1.how = true := by
  unfold ofB at h ⊢
  by_cases c : (saidB f).2 = true ∧ f.name ≠ sTypename ∧ fitB s typ f (saidB f).1.how = true
  · rw [if_pos c]; exact ⟨c.1, rfl, c.2.2⟩
  · rw [if_neg c] at h; cases h
theorem split_of {s : Sch} {typ : Str} {f : Fld} (h : (ofB s typ f).2 = true) : (decide ((ofB s typ f).1.how = 3) = changesB s typ) ∧ ((ofB s typ f).1.how = 0 → leafB s f.t.name = true) ∧
    ((ofB s typ f).1.how = 1 ∨ (ofB s typ f).1.how = 2 → compB s f.t.name = true ∧ (ofB s typ f).1.table ≠ []) := by
  obtain ⟨h1, h2, h3⟩ := of_said h
  obtain ⟨a1, a2, _⟩ := said_how h1
  rw [h2] at h3 ⊢
  unfold fitB rowsB at h3
  refine ⟨?_, fun e => ?_, fun e => ?_⟩
  · by_cases e0 : (saidB f).1.how = 0
    · rw [if_pos e0] at h3
      simp only [Bool.and_eq_true, Bool.not_eq_true'] at h3
      rw [h3.2, e0]; rfl
    · rw [if_neg e0] at h3
      by_cases e3 : (saidB f).1.how = 3
      · rw [if_pos e3] at h3
        simp only [Bool.and_eq_true, Bool.not_eq_true'] at h3
        rw [h3.2.2, e3]; rfl
      · rw [if_neg e3] at h3
        simp only [Bool.and_eq_true, Bool.not_eq_true'] at h3
        rw [h3.2]; simp [e3]
  · rw [if_pos e, Bool.and_eq_true] at h3; exact h3.1
  · rw [if_neg (by omega), if_neg (by omega)] at h3
    simp only [Bool.and_eq_true] at h3
    exact ⟨h3.1.1, a2 e⟩
abbrev VE := Val × Int
def scalMk (name : Str) (v : Val) : VE :=
  if name = sInt ∧ v.kind = 2 ∧ (v.n < -2147483648 ∨ 2147483647 < v.n) then (val0, 8)
  else if name = sID ∧ v.kind = 2 then (textV (Lib.itoa v.n), 0)
  else if (name = sInt ∧ v.kind = 2) ∨ (name = sBoolean ∧ v.kind = 1) ∨ ((name = sString ∨ name = sID) ∧ v.kind = 4) then (v, 0) else (val0, 7)
def enumMk (wr : Bool) (d : Dfn) (k : Int) (str : Str) : VE := if k = (if wr = true then 5 else 4) ∧ str ∈ d.parts then (textV str, 0) else (val0, 7)
def envO (env : List Mem) (name : Str) : Option Val := (env.find? fun m => m.name == name).map Mem.v
def thereB (wr : Bool) (env : List Mem) (v : Val) : Bool := !(wr && v.kind == 8) || (envO env v.s).isSome
def wrapN : Nat → Val → Val
  | 0, v => v
  | n + 1, v => .mk 6 0 [] [wrapN n v] []
def wrapR (n : Nat) (r : VE) : VE := if r.2 = 0 then (wrapN n r.1, 0) else r
abbrev MF := Str × Val × (Typ → VE)
def firstF (fs : List MF) (name : Str) : Option MF := fs.find? fun f => f.1 == name
def memMk (s : Sch) (wr within : Bool) (env : List Mem) (dfl : Par → VE) (fs : List MF) (p : Par) : Val × Bool × Int :=
  match (firstF fs p.name).bind fun f => if thereB wr env f.2.1 = true then some f else none with
  | some f => ((f.2.2 p.t).1, true, (f.2.2 p.t).2)
  | none => if p.has = true ∧ (within = false ∨ leafB s p.t.name = true) then ((dfl p).1, true, (dfl p).2) else if isT p.t = true then (val0, false, 9) else (val0, false, 0)
def memsMk (s : Sch) (wr within : Bool) (env : List Mem) (dfl : Par → VE) (fs : List MF) : List Par → List Mem × Int
  | [] => ([], 0)
  | p :: ps =>
    let r := memMk s wr within env dfl fs p
    if r.2.2 ≠ 0 then ([], r.2.2) else
      let q := memsMk s wr within env dfl fs ps
      if q.2 ≠ 0 then ([], q.2) else (if r.2.1 = true then .mk p.name r.1 :: q.1 else q.1, 0)
def strange (wr : Bool) (env : List Mem) (fs : List MF) (ps : List Par) : Bool := fs.any fun f => (parO ps f.1).isNone && (match firstF fs f.1 with | some g => thereB wr env g.2.1 | none => false)
def inputMk (s : Sch) (wr : Bool) (env : List Mem) (dfl : Par → VE) (fs : List MF) (d : Dfn) : VE :=
  if strange wr env fs d.params = true then (val0, 6) else
    let q := memsMk s wr true env dfl fs d.params
    if q.2 ≠ 0 then (val0, q.2) else (.mk 7 0 [] [] q.1, 0)
def baseMk (s : Sch) (wr : Bool) (env : List Mem) (dfl : Par → VE) (name : Str) (v : Val) (fs : List MF) : VE :=
  match findO s name with
  | none => (val0, 7)
  | some d => if d.kind = 0 then scalMk name v else if d.kind = 4 then enumMk wr d v.kind v.s else if d.kind = 5 then (if v.kind = 7 then inputMk s wr env dfl fs d else (val0, 7)) else (val0, 7)
def oddItem (wr : Bool) (t : Typ) (k : Int) : Bool := decide (0 < t.lists) && (k != 6 && (k != 0 && !(wr && k == 8)))
mutual
def mkV (s : Sch) (wr : Bool) (env : List Mem) (dfl : Par → VE) : Val → Typ → VE
  | .mk k n str l m, t =>
    if wr = true ∧ k = 8 then (match envO env str with
      | some x => if x.kind = 0 ∧ isT t = true then (val0, 9) else (x, 0)
      | none => if isT t = true then (val0, 9) else (val0, 0))
    else if k = 0 then (if isT t = true then (val0, 9) else (.mk k n str l m, 0))
    else if rightT t = true ∧ t.lists ≠ 0 then
      (if k = 6 then (let q := mkL s wr env dfl l (itemT t); if q.2 ≠ 0 then (val0, q.2) else (.mk 6 0 [] q.1 [], 0))
      else wrapR t.lists.toNat (baseMk s wr env dfl t.name (.mk k n str l m) (mkM s wr env dfl m)))
    else baseMk s wr env dfl t.name (.mk k n str l m) (mkM s wr env dfl m)
def mkL (s : Sch) (wr : Bool) (env : List Mem) (dfl : Par → VE) : List Val → Typ → List Val × Int
  | [], _ => ([], 0)
  | v :: l, t =>
    if oddItem wr t v.kind = true then ([], 7) else
      let r := mkV s wr env dfl v t
      if r.2 ≠ 0 then ([], r.2) else
        let q := mkL s wr env dfl l t
        if q.2 ≠ 0 then ([], q.2) else (r.1 :: q.1, 0)
def mkM (s : Sch) (wr : Bool) (env : List Mem) (dfl : Par → VE) : List Mem → List MF
  | [] => []
  | .mk nm v :: m => (nm, v, fun t => if rightT t = true ∧ allV good v = true then mkV s wr env dfl v t else (val0, 1)) :: mkM s wr env dfl m
end
def junkD : Par → VE := fun _ => (val0, 7)
def askV (s : Sch) (wr : Bool) (env : List Mem) (dfl : Par → VE) (t : Typ) (v : Val) : VE := if rightT t = true ∧ allV good v = true then mkV s wr env dfl v t else (val0, 1)
def dflLeaf (s : Sch) : Par → VE := fun p => askV s true [] junkD p.t p.d
def litV (s : Sch) (t : Typ) (v : Val) (env : List Mem) : VE := askV s true env (dflLeaf s) t v
def dflAll (s : Sch) : Par → VE := fun p => litV s p.t p.d []
def argsV (s : Sch) (ps : List Par) (args env : List Mem) : List Mem × Int := memsMk s true false env (dflAll s) (mkM s true env (dflLeaf s) args) ps
end Go.Proofs.YtmfmdehfbpkgdaaGreatDoor
namespace Go.Proofs.YtmfmdehfbpkgdaaGreatDoor
open Go Go.Av
attribute [local irreducible] HCode AOps PFn AFn Av.Step TStep
theorem members1 (N : Nat) (ih : ∀ a b : Val, a.size ≤ N → PFn Tryz.prog 40 [a.enc, b.enc] (.bool (sameV a b))) (a b : List Mem) (ha : a.length ≤ 9223372036854775807) (hs : ∀ x ∈ a, x.v.size ≤ N) :
    PFn Tryz.prog 19 [.slice (a.map Mem.enc) .no, .slice (b.map Mem.enc) .no] (.bool (sameM a b)) := by
  refine AFn.plain rfl (by simp [AV.closedL, AV.closed, Mem.closedL]) (AFn.en [4] Tryz.func19 ?_)
  by_cases hl : a.length = b.length
  · have d0 : ((a.length : Int) != (b.length : Int)) = false := by simp [hl]
    refine .go ?_
    change HCode _ _ _ _ _ _ _
    refine HCode.loop (fun n s σ => ∃ k : Nat, n = a.length - k ∧ k ≤ a.length ∧ sameM a b = sameM (a.drop k) (b.drop k) ∧ σ = ⟨[], []⟩ ∧
      s = [(5, .int .i64 k), (0, .slice (a.map Mem.enc) .no), (1, .slice (b.map Mem.enc) .no)])
      (s0 := [(5, .int .i64 (0 : Nat)), (0, .slice (a.map Mem.enc) .no), (1, .slice (b.map Mem.enc) .no)])
      ⟨rfl, rfl, rfl, trivial⟩ ⟨0, rfl, Nat.zero_le _, rfl, rfl, rfl⟩ ?_
    rintro n s σ ⟨k, rfl, hk, hp, rfl, rfl⟩
    by_cases h1 : k < a.length
    · have d1 : decide ((k : Int) < (a.length : Int)) = true := by simp [h1]
      have x1 := map_get' (f := Mem.enc) h1
      have h2 : k < b.length := by omega
      have x2 := map_get' (f := Mem.enc) h2
      have hcc := ih a[k].v b[k].v (hs _ (List.getElem_mem h1))
      repeat' first | refine .s1 ?_ | (refine .q ?_ ?_ <;> intro hc) | refine A.call rfl hcc (WeakL.refl _) ?_ | fail
      all_goals first
        | (refine Fin.ret1 rfl (Weak.eq ?_); rw [hp, sameM_drop h1 h2]; simp_all; done)
        | (refine ⟨a.length - (k + 1), by omega, [(5, .int .i64 ((k + 1 : Nat) : Int)), (0, .slice (a.map Mem.enc) .no), (1, .slice (b.map Mem.enc) .no)],
          ⟨rfl, rfl, rfl, trivial⟩, by simp [belowS, AV.low, Mem.lowL], rfl, k + 1, rfl, by omega, by rw [hp, sameM_drop h1 h2]; simp_all, rfl, rfl⟩; done)
    · have d1 : decide ((k : Int) < (a.length : Int)) = false := by simp; omega
      refine .go ?_
      refine Fin.ret1 rfl (Weak.eq ?_)
      rw [hp, List.drop_eq_nil_of_le (by omega), List.drop_eq_nil_of_le (by omega), sameM]
  · have d0 : ((a.length : Int) != (b.length : Int)) = true := by simp; omega
    refine .go ?_
    exact Fin.ret1 rfl (Weak.eq (by rw [sameM_len hl]))
theorem val_lens {g : Gh} {w : World} {v : Val} {u : Value} (h : Rep g w v.enc u) : v.l.length ≤ 9223372036854775807 ∧ v.m.length ≤ 9223372036854775807 := by
  obtain ⟨vs, _, h1, _⟩ := h
  obtain ⟨x, _, h2⟩ := h1.get (i := 3) (c := .slice v.lv .no) rfl
  obtain ⟨y, _, h3⟩ := h1.get (i := 4) (c := .slice v.mv .no) rfl
  have h4 := rep_len h2
  have h5 := rep_len h3
  rw [v.lv_len] at h4
  rw [v.mv_len] at h5
  exact ⟨h4, h5⟩
theorem same1_aux : ∀ (N : Nat) (a b : Val), a.size ≤ N → PFn Tryz.prog 40 [a.enc, b.enc] (.bool (sameV a b))
  | 0, a, b, h => absurd h (by have := a.size_pos; omega)
  | N + 1, a, b, h => PFn.bounded ⟨_, Tryz.func40, rfl, rfl⟩ (by simp [AV.closedL, Val.closed]) (fun g w vs ⟨u, r, _, hu, _⟩ => val_lens hu) fun ⟨la, ma⟩ => by
    have ih := fun a b h => same1_aux N a b h
    have hmem := members1 N ih a.m b.m (by omega) (fun x hx => by
      have h1 := sumSize_mem (size := Mem.size) hx
      have h2 : x.size = x.name.length + 2 + x.v.size := rfl
      have := a.size_eq
      omega)
    rw [← Val.mv_eq, ← Val.mv_eq] at hmem
    refine AFn.plain rfl (by simp [AV.closedL, Val.closed]) (AFn.en [4] Tryz.func40 ?_)
    have hq := sameV_eq a b
    repeat' first | refine A.len rfl rfl rfl (by rw [Val.lv_len]) ?_ | refine .s1 ?_ | (refine .q ?_ ?_ <;> intro hc) | fail
    all_goals try (refine Fin.ret1 rfl (Weak.eq ?_); rw [hq]; first | (simp_all; done) | (rw [sameL_len (p := a.l) (q := b.l) (by simp at hc; omega)]; simp; done))
    have hll : a.l.length = b.l.length := by simp at hc; omega
    change HCode _ _ _ _ _ _ _
    refine HCode.loop (fun n s σ => ∃ k : Nat, n = a.l.length - k ∧ k ≤ a.l.length ∧ sameL a.l b.l = sameL (a.l.drop k) (b.l.drop k) ∧
      σ = ⟨[.cells [.int .i64 a.kind, .int .i64 a.n, .str a.s, .slice a.lv .no, .slice a.mv .no], .cells [.int .i64 b.kind, .int .i64 b.n, .str b.s, .slice b.lv .no, .slice b.mv .no]], []⟩ ∧
      s = [(5, .int .i64 k), (2, .ptr 0 0), (3, .ptr 1 0)])
      (s0 := [(5, .int .i64 (0 : Nat)), (2, .ptr 0 0), (3, .ptr 1 0)])
      ⟨rfl, rfl, rfl, trivial⟩ ⟨0, rfl, Nat.zero_le _, rfl, rfl, rfl⟩ ?_
    rintro n s σ ⟨k, rfl, hk, hp, rfl, rfl⟩
    by_cases h1 : k < a.l.length
    · have d1 : decide ((k : Int) < (a.l.length : Int)) = true := by simp [h1]
      have x1 := Val.lv_get h1
      have h2 : k < b.l.length := by omega
      have x2 := Val.lv_get h2
      have hcc := ih a.l[k] b.l[k] (by have := Val.size_l h1; omega)
      repeat' first | refine A.len rfl rfl rfl (by rw [Val.lv_len]) ?_ | refine .s1 ?_ | (refine .q ?_ ?_ <;> intro hc) | refine A.call rfl hcc (WeakL.refl _) ?_ | fail
      · refine Fin.ret1 rfl (Weak.eq ?_)
        rw [hq, hp, sameL_drop h1 h2]; simp_all
      · refine ⟨a.l.length - (k + 1), by omega, [(5, .int .i64 ((k + 1 : Nat) : Int)), (2, .ptr 0 0), (3, .ptr 1 0)],
          ⟨rfl, rfl, rfl, trivial⟩, by simp [belowS, AV.low], by simp [belowB, belowT, Ob.low, AV.lowL, AV.low, Val.lv_low, Val.mv_low], k + 1, rfl, by omega, by rw [hp, sameL_drop h1 h2]; simp_all, rfl, rfl⟩
    · have d1 : decide ((k : Int) < (a.l.length : Int)) = false := by simp; omega
      repeat' first | refine A.len rfl rfl rfl (by rw [Val.lv_len]) ?_ | refine .s1 ?_ | (refine .q ?_ ?_ <;> intro hc) | refine A.call rfl hmem (WeakL.refl _) ?_ | fail
      refine Fin.ret1 rfl (Weak.eq ?_)
      rw [hq, hp, List.drop_eq_nil_of_le (by omega), List.drop_eq_nil_of_le (by omega)]
      rw [show sameL [] [] = true by rw [sameL]]
      simp_all
theorem sameAny (a b : Val) : PFn Tryz.prog 40 [a.enc, b.enc] (.bool (sameV a b)) := same1_aux a.size a b (Nat.le_refl _)
theorem membersAny (a b : List Mem) : PFn Tryz.prog 19 [.slice (a.map Mem.enc) .no, .slice (b.map Mem.enc) .no] (.bool (sameM a b)) :=
  PFn.bounded ⟨_, Tryz.func19, rfl, rfl⟩ (by simp [AV.closedL, AV.closed, Mem.closedL]) (fun g w vs ⟨u, r, _, hu, _⟩ => by have := rep_len hu; rwa [List.length_map] at this) fun ha =>
    members1 (sumSize Mem.size a) (fun x y _ => sameAny x y) a b ha (fun x hx => by have := sumSize_mem (size := Mem.size) hx; have h2 : x.size = x.name.length + 2 + x.v.size := rfl; omega)
end Go.Proofs.YtmfmdehfbpkgdaaGreatDoor
namespace Go.Proofs.YtmfmdehfbpkgdaaGreatDoor
open Go Go.Av
structure Row where
  key : Str
  typ : Str
  cols : List Mem
  broken : Bool
def Row.cells (r : Row) : List AV := [.str r.key, .str r.typ, .slice (r.cols.map Mem.enc) .no, .bool r.broken]
def Row.enc (r : Row) : AV := .agg r.cells
structure Tbl where
  name : Str
  rows : List Row
def Tbl.enc (t : Tbl) : AV := .agg [.str t.name, .slice (t.rows.map Row.enc) .no]
structure Need where
  table : Str
  key : Str
def Need.enc (n : Need) : AV := .agg [.str n.table, .str n.key]
structure Got where
  row : Row
  is : Bool
  e : Int
def Got.enc (g : Got) : AV := .agg [.str g.row.key, .str g.row.typ, .slice (g.row.cols.map Mem.enc) .no, .bool g.row.broken, .bool g.is, .int .i64 g.e]
structure Cmd where
  name : Str
  table : Str
  col : Str
  typ : Str
  args : List Mem
def Cmd.enc (c : Cmd) : AV := .agg [.str c.name, .str c.table, .str c.col, .str c.typ, .slice (c.args.map Mem.enc) .no]
def Tbls.enc (l : List Tbl) : AV := .slice (l.map Tbl.enc) .no
theorem Row.closed (r : Row) : r.enc.closed = true := by simp [Row.enc, Row.cells, AV.closed, AV.closedL, Mem.closedL]
theorem Row.closedL (l : List Row) : AV.closedL (l.map Row.enc) = true := closedL_map Row.closed l
theorem Tbl.closed (t : Tbl) : t.enc.closed = true := by simp [Tbl.enc, AV.closed, AV.closedL, Row.closedL]
theorem Tbl.closedL (l : List Tbl) : AV.closedL (l.map Tbl.enc) = true := closedL_map Tbl.closed l
theorem Need.closed (n : Need) : n.enc.closed = true := rfl
theorem Got.closed (g : Got) : g.enc.closed = true := by simp [Got.enc, AV.closed, AV.closedL, Mem.closedL]
theorem Cmd.closed (c : Cmd) : c.enc.closed = true := by simp [Cmd.enc, AV.closed, AV.closedL, Mem.closedL]
theorem Tbls.closed (l : List Tbl) : (Tbls.enc l).closed = true := by simp [Tbls.enc, AV.closed, Tbl.closedL]
theorem Row.lowL (n m : Nat) (l : List Row) : AV.lowL n m (l.map Row.enc) = true := AV.lowL_of_closed n m _ (Row.closedL l)
theorem Tbl.lowL (n m : Nat) (l : List Tbl) : AV.lowL n m (l.map Tbl.enc) = true := AV.lowL_of_closed n m _ (Tbl.closedL l)
theorem Mem.fitsAll (l : List Mem) : Av.fitsAll true 6 (l.map Mem.enc) = true := fitsAll_map Mem.fits l
end Go.Proofs.YtmfmdehfbpkgdaaGreatDoor
namespace Go.Proofs.YtmfmdehfbpkgdaaGreatDoor
open Go Go.Av
attribute [local irreducible] HCode AOps PFn AFn Av.Step TStep
theorem cloneM (l : List Mem) (h : l.length ≤ 1048576) : PFn Tryz.prog 20 [.slice (l.map Mem.enc) .no] (.slice (l.map Mem.enc) .no) := by
  have hl : (l.map Mem.enc).length = l.length := List.length_map ..
  refine AFn.plain (by simp [AV.closed, Mem.closedL]) (by simp [AV.closed, AV.closedL, Mem.closedL]) (AFn.en [2] Tryz.func20 ?_)
  refine HCode.split_nil 0 rfl (fun hn => ?_) ?_
  · repeat' first | refine .s1 ?_ | (refine .q ?_ ?_ <;> intro hc) | refine A.isnil rfl rfl rfl ?_ | fail
    exact Fin.ret1 rfl (Weak.no (WeakL.eq hn.symm))
  · repeat' first | refine .s1 ?_ | (refine .q ?_ ?_ <;> intro hc) | refine A.notnil rfl rfl rfl ?_ | refine A.append_new (n := 0) rfl rfl rfl rfl rfl rfl rfl rfl rfl rfl (Mem.fitsAll l) (by dsimp only; omega) (by omega) rfl ?_ | fail
    exact Fin.ret1 rfl (Weak.no (WeakL.eq (List.nil_append _)))
theorem twin (r : Row) (h : r.cols.length ≤ 1048576) : PFn Tryz.prog 59 [r.enc] r.enc := by
  refine AFn.plain (Row.closed r) (by simp [AV.closedL, Row.closed]) (AFn.eR [.cell 2 90] Tryz.func59 ?_)
  have hc := cloneM r.cols h
  repeat' first | refine .s1 ?_ | (refine .q ?_ ?_ <;> intro hc) | refine A.call rfl hc (WeakL.refl _) ?_ | fail
  exact FinR.r0
theorem indexRow (l : List Row) (f : FuncId) (c : AV) (p : Row → Bool) (hl : l.length ≤ 9223372036854775807) (hcl : c.closed = true) (hf : ∀ x ∈ l, PFn Tryz.prog f [x.enc, c] (.bool (p x))) :
    PFn Tryz.prog 135 [.slice (l.map Row.enc) .no, .fn (.func f) [] [c]] (.int .i64 (idxFrom p l 0)) := by
  refine AFn.plain rfl (by simp [AV.closed, AV.closedL, Row.closedL, hcl]) (AFn.en [4] Tryz.func135 ?_)
  refine .go ?_
  change HCode _ _ _ _ _ _ _
  refine HCode.loop (fun n s σ => ∃ k : Nat, n = l.length - k ∧ k ≤ l.length ∧ idxFrom p l 0 = idxFrom p (l.drop k) k ∧ σ = ⟨[], []⟩ ∧
    s = [(8, .int .i64 k), (7, .int .i64 l.length), (0, .slice (l.map Row.enc) .no), (1, .fn (.func f) [] [c])])
    (s0 := [(8, .int .i64 (0 : Nat)), (7, .int .i64 l.length), (0, .slice (l.map Row.enc) .no), (1, .fn (.func f) [] [c])])
    ⟨rfl, rfl, rfl, rfl, trivial⟩ ⟨0, rfl, Nat.zero_le _, rfl, rfl, rfl⟩ ?_
  rintro n s σ ⟨k, rfl, hk, hp, rfl, rfl⟩
  by_cases h1 : k < l.length
  · have d1 : decide ((k : Int) < (l.length : Int)) = true := by simp [h1]
    have x1 := map_get' (f := Row.enc) h1
    have hcc := hf l[k] (List.getElem_mem h1)
    repeat' first | refine .s1 ?_ | (refine .q ?_ ?_ <;> intro hc) | refine A.callw rfl rfl hcc (WeakL.refl _) ?_ | fail
    · refine Fin.ret1 rfl (Weak.eq ?_)
      rw [hp, idxFrom_drop h1, if_pos hc]
    · refine ⟨l.length - (k + 1), by omega, [(8, .int .i64 ((k + 1 : Nat) : Int)), (7, .int .i64 l.length), (0, .slice (l.map Row.enc) .no), (1, .fn (.func f) [] [c])],
        ⟨rfl, rfl, rfl, rfl, trivial⟩, by simp [belowS, AV.low, AV.lowL, Row.lowL, AV.low_of_closed _ _ _ hcl], rfl, k + 1, rfl, by omega, by rw [hp, idxFrom_drop h1, if_neg (by simp [hc])], rfl, rfl⟩
  · have d1 : decide ((k : Int) < (l.length : Int)) = false := by simp; omega
    refine .go ?_
    refine Fin.ret1 rfl (Weak.eq ?_)
    rw [hp, List.drop_eq_nil_of_le (by omega), idxFrom]
theorem placeIs (r : Row) (key : Str) : PFn Tryz.prog 136 [r.enc, .rptr (.str key)] (.bool (r.key == key)) := by
  refine AFn.plain rfl (by simp [AV.closedL, Row.closed, AV.closed]) (AFn.en [3] Tryz.func136 ?_)
  refine .go ?_
  exact Fin.r0
theorem Fin.ret2 {t1 t2 : Nat} {s : Slots} {v1 v2 r : AV} (h1 : lk? s t1 = some v1) (h2 : lk? s t2 = some v2) (hw : Weak (.tup [v1, v2]) r) : ∃ v', AEnd.ret (resAV s [t1, t2]) = .ret v' ∧ Weak v' r :=
  ⟨_, rfl, by rw [show resAV s [t1, t2] = .tup [v1, v2] by unfold resAV; simp only [List.map_cons, List.map_nil, lk_of h1, lk_of h2]]; exact hw⟩
def placeFrom (name key : Str) : List Tbl → Nat → Int × Int
  | [], _ => (-1, -1)
  | t :: l, k => if t.name == name then ((k : Int), idxFrom (fun r : Row => r.key == key) t.rows 0) else placeFrom name key l (k + 1)
theorem placeFrom_drop {name key : Str} {l : List Tbl} {k : Nat} (h : k < l.length) :
    placeFrom name key (l.drop k) k = if l[k].name == name then ((k : Int), idxFrom (fun r : Row => r.key == key) l[k].rows 0) else placeFrom name key (l.drop (k + 1)) (k + 1) := by
  rw [List.drop_eq_getElem_cons h, placeFrom]
theorem place (l : List Tbl) (name key : Str) (hl : l.length ≤ 9223372036854775807) (hr : ∀ t ∈ l, t.rows.length ≤ 9223372036854775807) :
    PFn Tryz.prog 106 [Tbls.enc l, .str name, .str key] (.tup [.int .i64 (placeFrom name key l 0).1, .int .i64 (placeFrom name key l 0).2]) := by
  refine AFn.plain rfl (by simp [AV.closedL, Tbls.closed, AV.closed]) (AFn.en [6, 7] Tryz.func106 ?_)
  repeat' first | refine A.box_r rfl rfl ?_ | refine .s1 ?_ | (refine .q ?_ ?_ <;> intro hc) | fail
  change HCode _ _ _ _ _ _ _
  refine HCode.loop (fun n s σ => ∃ k : Nat, n = l.length - k ∧ k ≤ l.length ∧ placeFrom name key l 0 = placeFrom name key (l.drop k) k ∧ σ = ⟨[], []⟩ ∧
    s = [(14, .int .i64 k), (13, .int .i64 l.length), (12, Tbls.enc l), (8, .int .i64 (-1)), (9, .int .i64 (-1)), (5, .rptr (.str key)), (1, .str name)])
    (s0 := [(14, .int .i64 (0 : Nat)), (13, .int .i64 l.length), (12, Tbls.enc l), (8, .int .i64 (-1)), (9, .int .i64 (-1)), (5, .rptr (.str key)), (1, .str name)])
    ⟨rfl, rfl, rfl, rfl, rfl, rfl, rfl, trivial⟩ ⟨0, rfl, Nat.zero_le _, rfl, rfl, rfl⟩ ?_
  rintro n s σ ⟨k, rfl, hk, hp, rfl, rfl⟩
  by_cases h1 : k < l.length
  · have d1 : decide ((k : Int) < (l.length : Int)) = true := by simp [h1]
    have x1 := map_get' (f := Tbl.enc) h1
    have hcc := indexRow l[k].rows 136 (.rptr (.str key)) (fun r => r.key == key) (hr _ (List.getElem_mem h1)) rfl (fun x _ => placeIs x key)
    repeat' first | refine .s1 ?_ | (refine .q ?_ ?_ <;> intro hc) | refine A.makeFunc rfl rfl ?_ | refine A.call rfl hcc (WeakL.refl _) ?_ | fail
    · refine ⟨l.length - (k + 1), by omega, [(14, .int .i64 ((k + 1 : Nat) : Int)), (13, .int .i64 l.length), (12, Tbls.enc l), (8, .int .i64 (-1)), (9, .int .i64 (-1)), (5, .rptr (.str key)), (1, .str name)],
        ⟨rfl, rfl, rfl, rfl, rfl, rfl, rfl, trivial⟩, by simp [belowS, AV.low, Tbls.enc, Tbl.lowL], rfl, k + 1, rfl, by omega, by rw [hp, placeFrom_drop h1, if_neg (by simpa using hc)], rfl, rfl⟩
    · refine Fin.ret2 rfl rfl (Weak.eq ?_)
      rw [hp, placeFrom_drop h1, if_pos (by simpa using hc)]
  · have d1 : decide ((k : Int) < (l.length : Int)) = false := by simp; omega
    refine .go ?_
    refine Fin.ret2 rfl rfl (Weak.eq ?_)
    rw [hp, List.drop_eq_nil_of_le (by omega), placeFrom]
end Go.Proofs.YtmfmdehfbpkgdaaGreatDoor
