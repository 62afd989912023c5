/-
  The page's rules 6 and 8 of a schema, in plain words, tell what the program's tell where rules 1 and 3 are kept; closures of what inputs need.
-/
import Derived.Test.YtegakkonlhmeaaaGreatDoorGSA6
namespace Go.Proofs.YtegakkonlhmeaaaGreatDoor
open Go Go.Av
set_option maxRecDepth 100000
set_option linter.unusedVariables false
set_option linter.unusedSimpArgs false

theorem every_iff {s : Sch} {f : Dfn → Bool} : everyB s f = true ↔ ∀ d ∈ s.defs, f d = true := by
  unfold everyB
  simp only [Bool.not_eq_true', List.any_eq_false, Bool.not_eq_true, Bool.not_eq_false', Bool.not_eq_false]

/-! Closures. -/
inductive Reach (next : Str → List Str) (l0 : List Str) : Str → Prop where
  | base {x : Str} : x ∈ l0 → Reach next l0 x
  | step {x y : Str} : Reach next l0 x → y ∈ next x → Reach next l0 y
def cntU (U l : List Str) : Nat := U.countP fun u => !decide (u ∈ l)
theorem mem_addNew {l : List Str} {x y : Str} : y ∈ addNew l x ↔ y ∈ l ∨ y = x := by
  unfold addNew
  split
  · constructor
    · exact .inl
    · rintro (h | rfl) <;> assumption
  · simp
theorem mem_addAll {xs l : List Str} {y : Str} : y ∈ xs.foldl addNew l ↔ y ∈ l ∨ y ∈ xs := by
  induction xs generalizing l with
  | nil => simp
  | cons x xs ih => rw [List.foldl_cons, ih, mem_addNew]; simp [or_assoc]
theorem addNew_pre (l : List Str) (x : Str) : ∃ r, addNew l x = l ++ r := by
  unfold addNew
  split
  · exact ⟨[], by simp⟩
  · exact ⟨[x], rfl⟩
theorem addAll_pre (xs l : List Str) : ∃ r, xs.foldl addNew l = l ++ r := by
  induction xs generalizing l with
  | nil => exact ⟨[], by simp⟩
  | cons x xs ih =>
    obtain ⟨r1, h1⟩ := addNew_pre l x
    obtain ⟨r2, h2⟩ := ih (addNew l x)
    exact ⟨r1 ++ r2, by rw [List.foldl_cons, h2, h1, List.append_assoc]⟩
theorem cnt_new {U l : List Str} {x : Str} (hx : x ∈ U) (hn : x ∉ l) : cntU U (l ++ [x]) + 1 ≤ cntU U l := by
  unfold cntU
  induction U with
  | nil => simp at hx
  | cons u U ih =>
    have mono : ∀ V : List Str, V.countP (fun u => !decide (u ∈ l ++ [x])) ≤ V.countP (fun u => !decide (u ∈ l)) := fun V => by
      apply List.countP_mono_left
      intro v _ h
      simp at h ⊢
      exact h.1
    rw [List.countP_cons, List.countP_cons]
    by_cases e : u = x
    · subst e
      have := mono U
      simp [hn]; simpa using this
    · have hU : x ∈ U := by
        rcases List.mem_cons.1 hx with h | h
        · exact absurd h.symm e
        · exact h
      have := ih hU
      have e2 : (!decide (u ∈ l ++ [x])) = (!decide (u ∈ l)) := by simp [e]
      rw [e2]; omega
theorem cnt_addNew {U l : List Str} {x : Str} (hx : x ∈ U) : cntU U (addNew l x) + (addNew l x).length ≤ cntU U l + l.length := by
  unfold addNew
  split
  · exact Nat.le_refl _
  · rename_i h
    have := cnt_new hx h
    rw [List.length_append, List.length_singleton]; omega
theorem cnt_addAll {U xs l : List Str} (h : ∀ x ∈ xs, x ∈ U) : cntU U (xs.foldl addNew l) + (xs.foldl addNew l).length ≤ cntU U l + l.length := by
  induction xs generalizing l with
  | nil => exact Nat.le_refl _
  | cons x xs ih =>
    rw [List.foldl_cons]
    exact Nat.le_trans (ih fun y hy => h y (List.mem_cons_of_mem _ hy)) (cnt_addNew (h x (List.mem_cons_self ..)))
theorem cnt_le (U l : List Str) : cntU U l ≤ U.length := List.countP_le_length ..
theorem closeF_sub (next : Str → List Str) : ∀ (n i : Nat) (l : List Str), ∃ r, closeF next n i l = l ++ r
  | 0, _, l => ⟨[], by rw [closeF]; simp⟩
  | n + 1, i, l => by
    rw [closeF]
    split
    · exact ⟨[], by simp⟩
    · rename_i x _
      obtain ⟨r1, h1⟩ := addAll_pre (next x) l
      obtain ⟨r2, h2⟩ := closeF_sub next n (i + 1) ((next x).foldl addNew l)
      exact ⟨r1 ++ r2, by rw [h2, h1, List.append_assoc]⟩
theorem closeF_reach (next : Str → List Str) (l0 : List Str) : ∀ (n i : Nat) (l : List Str), (∀ x ∈ l, Reach next l0 x) → ∀ x ∈ closeF next n i l, Reach next l0 x
  | 0, _, l, h, x, hx => h x (by rwa [closeF] at hx)
  | n + 1, i, l, h, x, hx => by
    rw [closeF] at hx
    split at hx
    · exact h x hx
    · rename_i y hy
      refine closeF_reach next l0 n (i + 1) _ (fun z hz => ?_) x hx
      rcases mem_addAll.1 hz with h1 | h1
      · exact h z h1
      · exact .step (h y (List.mem_of_getElem? hy)) h1
theorem closeF_closed (next : Str → List Str) (U : List Str) (hU : ∀ x, ∀ y ∈ next x, y ∈ U) : ∀ (n i : Nat) (l : List Str), (∀ (j : Nat) (x : Str), j < i → l[j]? = some x → ∀ y ∈ next x, y ∈ l) → cntU U l + l.length ≤ n + i →
    ∀ x ∈ closeF next n i l, ∀ y ∈ next x, y ∈ closeF next n i l
  | 0, i, l, h, hb, x, hx, y, hy => by
    rw [closeF] at hx ⊢
    obtain ⟨j, hj, rfl⟩ := List.getElem_of_mem hx
    exact h j _ (by omega) (List.getElem?_eq_getElem hj) y hy
  | n + 1, i, l, h, hb, x, hx, y, hy => by
    rw [closeF] at hx ⊢
    split at hx
    · rename_i e
      obtain ⟨j, hj, rfl⟩ := List.getElem_of_mem hx
      have := List.getElem?_eq_none_iff.1 e
      exact h j _ (by omega) (List.getElem?_eq_getElem hj) y hy
    · rename_i z hz
      obtain ⟨r, hr⟩ := addAll_pre (next z) l
      refine closeF_closed next U hU n (i + 1) _ (fun j w hj hw v hv => ?_) (by have := cnt_addAll (l := l) (hU z); omega) x hx y hy
      by_cases e : j = i
      · subst e
        have : (l ++ r)[j]? = some z := by rw [List.getElem?_append_left (List.getElem?_eq_some_iff.1 hz).1, hz]
        rw [hr, this] at hw
        cases hw
        exact mem_addAll.2 (.inr hv)
      · have hl : j < l.length := by have := (List.getElem?_eq_some_iff.1 hz).1; omega
        rw [hr, List.getElem?_append_left hl] at hw
        exact mem_addAll.2 (.inl (h j w (by omega) hw v hv))
theorem closeF_iff {next : Str → List Str} {U l0 : List Str} {N : Nat} (hU : ∀ x, ∀ y ∈ next x, y ∈ U) (hN : cntU U l0 + l0.length ≤ N) (y : Str) : y ∈ closeF next N 0 l0 ↔ Reach next l0 y := by
  constructor
  · exact closeF_reach next l0 N 0 l0 (fun x hx => .base hx) y
  · intro h
    induction h with
    | base h =>
      obtain ⟨r, hr⟩ := closeF_sub next N 0 l0
      rw [hr]; exact List.mem_append_left _ h
    | step _ hy ih => exact closeF_closed next U hU N 0 l0 (fun j x hj => absurd hj (Nat.not_lt_zero _)) (by omega) _ ih _ hy
theorem Reach.mono {n1 n2 : Str → List Str} {l1 l2 : List Str} (hl : ∀ x ∈ l1, x ∈ l2) (hn : ∀ x, ∀ y ∈ n1 x, y ∈ n2 x) {x : Str} (h : Reach n1 l1 x) : Reach n2 l2 x := by
  induction h with
  | base h => exact .base (hl _ h)
  | step _ hy ih => exact .step ih (hn _ _ hy)

/-! What inputs need. -/
theorem needFold {s : Sch} {ps : List Par} {l : List Str} {y : Str} : y ∈ ps.foldl (needAdd s) l ↔ y ∈ l ∨ ∃ p ∈ ps, needP s p = true ∧ p.t.name = y := by
  induction ps generalizing l with
  | nil => simp
  | cons p ps ih =>
    rw [List.foldl_cons, ih]
    unfold needAdd
    split
    · rename_i h
      rw [mem_addNew]
      constructor
      · rintro ((h1 | h1) | ⟨q, hq, h2⟩)
        · exact .inl h1
        · exact .inr ⟨p, List.mem_cons_self .., h, h1.symm⟩
        · exact .inr ⟨q, List.mem_cons_of_mem _ hq, h2⟩
      · rintro (h1 | ⟨q, hq, h2, h3⟩)
        · exact .inl (.inl h1)
        · rcases List.mem_cons.1 hq with rfl | hq
          · exact .inl (.inr h3.symm)
          · exact .inr ⟨q, hq, h2, h3⟩
    · rename_i h
      constructor
      · rintro (h1 | ⟨q, hq, h2⟩)
        · exact .inl h1
        · exact .inr ⟨q, List.mem_cons_of_mem _ hq, h2⟩
      · rintro (h1 | ⟨q, hq, h2, h3⟩)
        · exact .inl h1
        · rcases List.mem_cons.1 hq with rfl | hq
          · exact absurd h2 h
          · exact .inr ⟨q, hq, h2, h3⟩
theorem mem_needsP {s : Sch} {name y : Str} : y ∈ needsP s name ↔ ∃ p ∈ (findR s name).1.params, needP s p = true ∧ p.t.name = y := by
  unfold needsP; rw [needFold]; simp
theorem findR_params {s : Sch} {name : Str} {p : Par} (h : p ∈ (findR s name).1.params) : (findR s name).1 ∈ s.defs := by
  rcases findR_in s name with h1 | h1 | h1
  · exact h1
  · rw [h1] at h; simp at h
  · rw [h1] at h; simp [zeroD] at h
theorem params_all {s : Sch} {name : Str} {p : Par} (h : p ∈ (findR s name).1.params) : p.t.name ∈ allTs s :=
  List.mem_flatMap.2 ⟨_, findR_params h, List.mem_map.2 ⟨p, h, rfl⟩⟩
theorem needsP_all {s : Sch} (x : Str) : ∀ y ∈ needsP s x, y ∈ allTs s := fun y hy => by
  obtain ⟨p, hp, _, rfl⟩ := mem_needsP.1 hy
  exact params_all hp
theorem needFold_cnt {s : Sch} {U : List Str} {ps : List Par} {l : List Str} (h : ∀ p ∈ ps, p.t.name ∈ U) : cntU U (ps.foldl (needAdd s) l) + (ps.foldl (needAdd s) l).length ≤ cntU U l + l.length := by
  induction ps generalizing l with
  | nil => exact Nat.le_refl _
  | cons p ps ih =>
    rw [List.foldl_cons]
    refine Nat.le_trans (ih fun q hq => h q (List.mem_cons_of_mem _ hq)) ?_
    unfold needAdd
    split
    · exact cnt_addNew (h p (List.mem_cons_self ..))
    · exact Nat.le_refl _
theorem needsP_cnt (s : Sch) (name : Str) : cntU (allTs s) (needsP s name) + (needsP s name).length ≤ (allTs s).length := by
  refine Nat.le_trans (needFold_cnt fun p hp => params_all hp) ?_
  have := cnt_le (allTs s) []
  simpa using this
theorem rings_iff {s : Sch} {name : Str} : ringsB s name = true ↔ Reach (needsP s) (needsP s name) name := by
  unfold ringsB
  rw [decide_eq_true_eq, closeF_iff needsP_all (needsP_cnt s name)]
/-- The page's. -/
def needRP (s : Sch) (p : Par) : Bool := decide (p.t.lists = 0) && (decide (p.t.musts = 1) && kindB s p.t.name [5])
def needsR (s : Sch) (name : Str) : List Str := if (findR s name).1.kind = 5 then ((findR s name).1.params.filter (needRP s)).map fun p => p.t.name else []
def ringR (s : Sch) (name : Str) : Bool := decide (name ∈ closeF (needsR s) ((needsR s name).length + (allTs s).length) 0 (needsR s name))
def openR (s : Sch) : Bool := !s.defs.any fun d => ringR s d.name
theorem needsR_all {s : Sch} (x : Str) : ∀ y ∈ needsR s x, y ∈ allTs s := fun y hy => by
  unfold needsR at hy
  split at hy
  · obtain ⟨p, hp, rfl⟩ := List.mem_map.1 hy
    exact params_all (List.mem_filter.1 hp).1
  · simp at hy
theorem ringR_iff {s : Sch} {name : Str} : ringR s name = true ↔ Reach (needsR s) (needsR s name) name := by
  unfold ringR
  rw [decide_eq_true_eq, closeF_iff needsR_all (by have := cnt_le (allTs s) (needsR s name); omega)]

/-! What rule 1 tells. -/
theorem named_iff {s : Sch} : namedB s = true ↔ sdlOk s = true ∧ (dNames s).Nodup ∧ (∀ n ∈ dNames s, own2 n = false) ∧ ∀ n ∈ dNames s, kindB s n [0] = false := by
  unfold namedB onceB foreignB
  simp only [Bool.and_eq_true, decide_eq_true_eq, Bool.not_eq_true', List.any_eq_false, Bool.not_eq_true]
theorem sdl_dfn {s : Sch} (h : sdlOk s = true) {d : Dfn} (hd : d ∈ s.defs) : dfnOk d = true := by
  unfold sdlOk at h
  simp only [Bool.and_eq_true, List.all_eq_true] at h
  exact h.2.2 d hd
theorem nodup_find {l : List Dfn} {d : Dfn} (hn : (l.map Dfn.name).Nodup) (hd : d ∈ l) : l.find? (fun x => x.name == d.name) = some d := by
  induction l with
  | nil => simp at hd
  | cons x l ih =>
    rw [List.map_cons, List.nodup_cons] at hn
    rw [List.find?_cons]
    rcases List.mem_cons.1 hd with rfl | hd
    · simp
    · have : (x.name == d.name) = false := by
        rw [beq_eq_false_iff_ne]
        intro e
        exact hn.1 (List.mem_map.2 ⟨d, hd, e.symm⟩)
      rw [this]
      exact ih hn.2 hd
theorem named_find {s : Sch} (h : namedB s = true) {d : Dfn} (hd : d ∈ s.defs) : findO s d.name = some d := by
  obtain ⟨h1, h2, h3, h4⟩ := named_iff.1 h
  have hm : d.name ∈ dNames s := List.mem_map.2 ⟨d, hd, rfl⟩
  have hk := h4 _ hm
  unfold findO
  split
  · rename_i hs
    unfold kindB findR findO at hk
    rw [if_pos hs] at hk
    simp at hk
  · exact nodup_find h2 hd
theorem named_findR {s : Sch} (h : namedB s = true) {d : Dfn} (hd : d ∈ s.defs) : findR s d.name = (d, true) := by rw [findR, named_find h hd]
theorem dfnOk_params {d : Dfn} (h : dfnOk d = true) : (d.params = [] ∨ d.kind = 5) ∧ d.params.all parOk = true := by
  unfold dfnOk at h
  split at h
  · simp only [Bool.and_eq_true, decide_eq_true_eq] at h
    rw [h.1.2.2]; simp
  · split at h
    · simp only [Bool.and_eq_true, decide_eq_true_eq] at h
      rw [h.1.2.2.2]; simp
    · split at h
      · simp only [Bool.and_eq_true, decide_eq_true_eq] at h
        rw [h.1.2.2.2]; simp
      · split at h
        · rename_i k5
          simp only [Bool.and_eq_true] at h
          exact ⟨.inr k5, h.2.2⟩
        · cases h
theorem dfnOk_faces {d : Dfn} (h : dfnOk d = true) (hf : d.faces ≠ []) : d.kind = 1 ∨ d.kind = 2 := by
  unfold dfnOk at h
  split at h
  · assumption
  · split at h
    · simp only [Bool.and_eq_true, decide_eq_true_eq] at h
      exact absurd h.1.2.1 hf
    · split at h
      · simp only [Bool.and_eq_true, decide_eq_true_eq] at h
        exact absurd h.1.2.1 hf
      · split at h
        · simp only [Bool.and_eq_true, decide_eq_true_eq] at h
          exact absurd h.1.2.1 hf
        · cases h
theorem needs_same {s : Sch} (h : namedB s = true) (x y : Str) : y ∈ needsP s x ↔ y ∈ needsR s x := by
  rw [mem_needsP]
  have h1 := (named_iff.1 h).1
  have key : ∀ p ∈ (findR s x).1.params, needP s p = needRP s p ∧ (findR s x).1.kind = 5 := fun p hp => by
    obtain ⟨h2, h3⟩ := dfnOk_params (sdl_dfn h1 (findR_params hp))
    have h4 := List.all_eq_true.1 h3 p hp
    refine ⟨?_, h2.resolve_left fun e => by rw [e] at hp; simp at hp⟩
    unfold parOk at h4
    simp only [Bool.and_eq_true] at h4
    have hr := h4.2.1
    unfold needP needRP isT
    rw [hr, Bool.true_and]
    by_cases hl : p.t.lists = 0
    · have hm := (rightT_iff.1 hr).2.2.2
      rw [hl] at hm
      have : decide (p.t.musts % 2 = 1) = decide (p.t.musts = 1) := by
        rw [Bool.eq_iff_iff, decide_eq_true_eq, decide_eq_true_eq]
        have h0 := hm.1
        have h2 : p.t.musts < 2 := hm.2
        omega
      rw [this]
    · simp [hl]
  constructor
  · rintro ⟨p, hp, h2, h3⟩
    obtain ⟨e, k⟩ := key p hp
    unfold needsR
    rw [if_pos k]
    exact List.mem_map.2 ⟨p, List.mem_filter.2 ⟨hp, e ▸ h2⟩, h3⟩
  · intro hy
    unfold needsR at hy
    split at hy
    · obtain ⟨p, hp, rfl⟩ := List.mem_map.1 hy
      obtain ⟨hp1, hp2⟩ := List.mem_filter.1 hp
      exact ⟨p, hp1, (key p hp1).1 ▸ hp2, rfl⟩
    · simp at hy
theorem openR_eq {s : Sch} (h : namedB s = true) : openR s = openB s := by
  unfold openR openB everyB
  congr 1
  rw [Bool.eq_iff_iff, List.any_eq_true, List.any_eq_true]
  have key : ∀ d ∈ s.defs, (ringR s d.name = true ↔ (!open1 s d) = true) := fun d hd => by
    unfold open1
    have e1 : ringR s d.name = true ↔ ringsB s d.name = true := by
      rw [ringR_iff, rings_iff]
      exact ⟨Reach.mono (fun x hx => (needs_same h _ x).2 hx) (fun x y hy => (needs_same h x y).2 hy), Reach.mono (fun x hx => (needs_same h _ x).1 hx) (fun x y hy => (needs_same h x y).1 hy)⟩
    rw [e1]
    by_cases k : d.kind = 5
    · simp [k]
    · have : ringsB s d.name = false := by
        rw [Bool.eq_false_iff]
        intro hr
        rw [← e1, ringR_iff] at hr
        have e0 : needsR s d.name = [] := by unfold needsR; rw [named_findR h hd, if_neg k]
        have aux : ∀ x, Reach (needsR s) [] x → False := fun x hx => by
          induction hx with
          | base h => simp at h
          | step _ _ ih => exact ih
        rw [e0] at hr
        exact aux _ hr
      simp [k, this]
  exact ⟨fun ⟨d, hd, h1⟩ => ⟨d, hd, (key d hd).1 h1⟩, fun ⟨d, hd, h1⟩ => ⟨d, hd, (key d hd).2 h1⟩⟩

/-! Rule 6. -/
def sTypename : Str := [95, 95, 116, 121, 112, 101, 110, 97, 109, 101]
def fieldO (s : Sch) (typ name : Str) : Option Fld :=
  if name = sTypename ∧ compB s typ = true then some ⟨name, [], ⟨sString, 0, 1⟩, []⟩ else if (findR s typ).1.kind = 1 ∨ (findR s typ).1.kind = 2 then fldO (findR s typ).1.fields name else none
def hasR (s : Sch) (d : Dfn) (face : Str) : Bool := (findR s face).1.fields.all fun g => match fieldO s d.name g.name with | none => false | some f => subB s f.t g.t && takesB f g
def keptR (s : Sch) : Bool := s.defs.all fun d => d.faces.all (hasR s d)
theorem single_fields {s : Sch} (h : soleB s = true) {d : Dfn} (hd : d ∈ s.defs) : goodNames (d.fields.map Fld.name) = true ∧ goodNames (d.params.map Par.name) = true ∧ onceB d.parts = true ∧ onceB d.faces = true ∧ ∀ f ∈ d.fields, goodNames (f.params.map Par.name) = true := by
  have h0 : sole1 d = true := every_iff.1 h d hd
  unfold sole1 at h0
  simp only [Bool.and_eq_true, Bool.not_eq_true', List.any_eq_false, Bool.not_eq_true, Bool.not_eq_false', Bool.not_eq_false] at h0
  obtain ⟨h1, h2, h3, h4, h5⟩ := h0
  exact ⟨h1, h2, h3, h4, h5⟩
theorem good_own {l : List Str} (h : goodNames l = true) : l.Nodup ∧ ∀ x ∈ l, own2 x = false := by
  unfold goodNames onceB foreignB at h
  simp only [Bool.and_eq_true, decide_eq_true_eq, Bool.not_eq_true', List.any_eq_false, Bool.not_eq_true] at h
  exact h
theorem keptR_eq {s : Sch} (h : namedB s = true) (h3 : soleB s = true) : keptR s = keptB s := by
  unfold keptR keptB everyB kept1
  rw [Bool.eq_iff_iff, List.all_eq_true]
  simp only [Bool.not_eq_true', List.any_eq_false, Bool.not_eq_true, Bool.not_eq_false', Bool.not_eq_false, List.all_eq_true, List.any_eq_true, not_exists, not_and]
  have key : ∀ d ∈ s.defs, ∀ n ∈ d.faces, hasR s d n = hasB s d n := fun d hd n hn => by
    unfold hasR hasB
    have hk := dfnOk_faces (sdl_dfn (named_iff.1 h).1 hd) (List.ne_nil_of_mem hn)
    rw [Bool.eq_iff_iff, List.all_eq_true, List.all_eq_true]
    have inner : ∀ g ∈ (findR s n).1.fields, fieldO s d.name g.name = fldO d.fields g.name := fun g hg => by
      have hx : (findR s n).1 ∈ s.defs := by
        rcases findR_in s n with h1 | h1 | h1
        · exact h1
        · rw [h1] at hg; simp at hg
        · rw [h1] at hg; simp [zeroD] at hg
      have ho := (good_own (single_fields h3 hx).1).2 g.name (List.mem_map.2 ⟨g, hg, rfl⟩)
      unfold fieldO
      rw [if_neg (by rintro ⟨e, _⟩; rw [e] at ho; exact absurd ho (by decide)), named_findR h hd, if_pos hk]
    exact ⟨fun h1 g hg => by rw [← inner g hg]; exact h1 g hg, fun h1 g hg => by rw [inner g hg]; exact h1 g hg⟩
  constructor
  · intro h1 d hd n hn
    rw [← key d hd n hn, h1 d hd n hn]
  · intro h1 d hd n hn
    rw [key d hd n hn]; simpa using h1 d hd n hn
/-- The page's Check. -/
def ruleR (s : Sch) (n : Int) : Bool := if n = 6 then keptR s else if n = 8 then openR s else ruleB s n
def checkRF (s : Sch) : Nat → Int → Int
  | 0, _ => 0
  | k + 1, n => if ruleR s n = true then checkRF s k (n + 1) else n
theorem checkR_eq (s : Sch) : checkRF s 9 1 = checkI s := by
  have e1 : ruleR s 1 = namedB s := rfl
  have f1 : ruleB s 1 = namedB s := rfl
  have e2 : ruleR s 2 = rootsB s := rfl
  have f2 : ruleB s 2 = rootsB s := rfl
  have e3 : ruleR s 3 = soleB s := rfl
  have f3 : ruleB s 3 = soleB s := rfl
  have e4 : ruleR s 4 = ruleB s 4 := rfl
  have e5 : ruleR s 5 = ruleB s 5 := rfl
  have e6 : ruleR s 6 = keptR s := rfl
  have f6 : ruleB s 6 = keptB s := rfl
  have e7 : ruleR s 7 = ruleB s 7 := rfl
  have e8 : ruleR s 8 = openR s := rfl
  have f8 : ruleB s 8 = openB s := rfl
  have e9 : ruleR s 9 = ruleB s 9 := rfl
  unfold checkI
  simp only [checkRF, checkF, Int.reduceAdd, e1, f1, e2, f2, e3, f3, e4, e5, e6, f6, e7, e8, f8, e9]
  by_cases h1 : namedB s = true
  · by_cases h3 : soleB s = true
    · rw [keptR_eq h1 h3, openR_eq h1]
    · simp only [if_neg h3]
  · simp only [if_neg h1]
end Go.Proofs.YtegakkonlhmeaaaGreatDoor
