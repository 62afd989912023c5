/-
  A sound schema with its definitions in another order is sound.
  The laws of layer 11: the page's example; SchemaTurned.
  A sound schema with an enum more.
  The laws of layer 11: SchemaGrows.
-/
import Derived.Test.YtegakkonlhmeaaaGreatDoorGSA13
import Derived.Test.YtegakkonlhmeaaaGreatDoorGSA15
import Derived.Test.YtegakkonlhmeaaaGreatDoorGSA11
namespace Go.Proofs.YtegakkonlhmeaaaGreatDoor
open Go Go.Av
set_option maxRecDepth 100000
set_option linter.unusedVariables false
set_option linter.unusedSimpArgs false
set_option linter.unusedSectionVars false

theorem check_zero {s : Sch} : checkI s = 0 ↔ namedB s = true ∧ rootsB s = true ∧ soleB s = true ∧ typedB s = true ∧ facesB s = true ∧ keptB s = true ∧ partsB s = true ∧ openB s = true ∧ dfltsB s = true := by
  have f1 : ruleB s 1 = namedB s := rfl
  have f2 : ruleB s 2 = rootsB s := rfl
  have f3 : ruleB s 3 = soleB s := rfl
  have f4 : ruleB s 4 = typedB s := rfl
  have f5 : ruleB s 5 = facesB s := rfl
  have f6 : ruleB s 6 = keptB s := rfl
  have f7 : ruleB s 7 = partsB s := rfl
  have f8 : ruleB s 8 = openB s := rfl
  have f9 : ruleB s 9 = dfltsB s := rfl
  unfold checkI
  simp only [checkF, Int.reduceAdd, f1, f2, f3, f4, f5, f6, f7, f8, f9]
  cases namedB s <;> simp
  cases rootsB s <;> simp
  cases soleB s <;> simp
  cases typedB s <;> simp
  cases facesB s <;> simp
  cases keptB s <;> simp
  cases partsB s <;> simp
  cases openB s <;> simp

/-! What depends on names alone. -/
section
variable {s s' : Sch} (hf : ∀ n, findO s' n = findO s n)
include hf
theorem findR_cong (n : Str) : findR s' n = findR s n := by unfold findR; rw [hf]
theorem kindB_cong (n : Str) (ks : List Int) : kindB s' n ks = kindB s n ks := by unfold kindB; rw [findR_cong hf]
theorem bareB_cong (n : Str) (k m : Int) (str : Str) (inp inp' : List Par → Bool) (h : inp' = inp) : bareB s' n k m str inp' = bareB s n k m str inp := by unfold bareB; rw [hf, h]
mutual
theorem fitsV_cong : ∀ (v : Val) (t : Typ) (w : Bool), fitsV s' v t w = fitsV s v t w
  | .mk k n str l m, t, w => by
    rw [fitsV, fitsV, bareB_cong hf t.name k n str _ _ (funext fun ps => by rw [fitsM_cong m ps []]), fitsL_cong l (itemT t)]
theorem fitsL_cong : ∀ (l : List Val) (t : Typ), fitsL s' l t = fitsL s l t
  | [], t => by rw [fitsL, fitsL]
  | v :: l, t => by rw [fitsL, fitsL, fitsV_cong v t true, fitsL_cong l t]
theorem fitsM_cong : ∀ (m : List Mem) (ps : List Par) (seen : List Str), fitsM s' ps m seen = fitsM s ps m seen
  | [], ps, seen => by rw [fitsM, fitsM]
  | .mk nm v :: m, ps, seen => by
    rw [fitsM, fitsM, fitsM_cong m ps]
    cases parO ps nm with
    | none => rfl
    | some p => simp only; rw [fitsV_cong v p.t false]
end
theorem litR_cong (t : Typ) (v : Val) : litR s' t v = litR s t v := by unfold litR; rw [fitsV_cong hf]
theorem needP_cong (p : Par) : needP s' p = needP s p := by unfold needP; rw [kindB_cong hf]
theorem needsP_cong (n : Str) : needsP s' n = needsP s n := by
  unfold needsP
  rw [findR_cong hf]
  have : needAdd s' = needAdd s := by funext l p; unfold needAdd; rw [needP_cong hf]
  rw [this]
theorem rings_cong (n : Str) : ringsB s' n = ringsB s n := by
  rw [Bool.eq_iff_iff, rings_iff, rings_iff, show needsP s' = needsP s from funext (needsP_cong hf)]
end
theorem mem_possF {name x : Str} {ds : List Dfn} {l : List Str} : x ∈ ds.foldl (fun l x => possF l x name) l ↔ x ∈ l ∨ ∃ d ∈ ds, d.kind = 1 ∧ name ∈ d.faces ∧ d.name = x := by
  induction ds generalizing l with
  | nil => simp
  | cons d ds ih =>
    rw [List.foldl_cons, ih]
    unfold possF
    split
    · rename_i h
      rw [mem_addNew]
      constructor
      · rintro ((h1 | h1) | ⟨q, hq, h2⟩)
        · exact .inl h1
        · exact .inr ⟨d, List.mem_cons_self .., h.1, h.2, h1.symm⟩
        · exact .inr ⟨q, List.mem_cons_of_mem _ hq, h2⟩
      · rintro (h1 | ⟨q, hq, h2, h3, h4⟩)
        · exact .inl (.inl h1)
        · rcases List.mem_cons.1 hq with rfl | hq
          · exact .inl (.inr h4.symm)
          · exact .inr ⟨q, hq, h2, h3, h4⟩
    · rename_i h
      constructor
      · rintro (h1 | ⟨q, hq, h2⟩)
        · exact .inl h1
        · exact .inr ⟨q, List.mem_cons_of_mem _ hq, h2⟩
      · rintro (h1 | ⟨q, hq, h2, h3, h4⟩)
        · exact .inl h1
        · rcases List.mem_cons.1 hq with rfl | hq
          · exact absurd ⟨h2, h3⟩ h
          · exact .inr ⟨q, hq, h2, h3, h4⟩
theorem mem_possU {s : Sch} {x : Str} {ps l : List Str} : x ∈ ps.foldl (possU s) l ↔ x ∈ l ∨ (x ∈ ps ∧ kindB s x [1] = true) := by
  induction ps generalizing l with
  | nil => simp
  | cons p ps ih =>
    rw [List.foldl_cons, ih]
    unfold possU
    split
    · rename_i h
      rw [mem_addNew, List.mem_cons]
      constructor
      · rintro ((h1 | rfl) | h1)
        · exact .inl h1
        · exact .inr ⟨.inl rfl, h⟩
        · exact .inr ⟨.inr h1.1, h1.2⟩
      · rintro (h1 | ⟨rfl | h1, h2⟩)
        · exact .inl (.inl h1)
        · exact .inl (.inr rfl)
        · exact .inr ⟨h1, h2⟩
    · rename_i h
      rw [List.mem_cons]
      constructor
      · rintro (h1 | h1)
        · exact .inl h1
        · exact .inr ⟨.inr h1.1, h1.2⟩
      · rintro (h1 | ⟨rfl | h1, h2⟩)
        · exact .inl h1
        · exact absurd h2 h
        · exact .inr ⟨h1, h2⟩
/-- Which objects a name may be: as a set. -/
theorem mem_poss {s : Sch} {name x : Str} : x ∈ possB s name ↔ ∃ d, findO s name = some d ∧ ((d.kind = 1 ∧ x = name) ∨ (d.kind = 2 ∧ ∃ e ∈ s.defs, e.kind = 1 ∧ name ∈ e.faces ∧ e.name = x) ∨ (d.kind = 3 ∧ x ∈ d.parts ∧ kindB s x [1] = true)) := by
  unfold possB
  cases h : findO s name with
  | none => simp
  | some d =>
    simp only [Option.some.injEq, exists_eq_left']
    by_cases k1 : d.kind = 1
    · simp [k1]
    · by_cases k2 : d.kind = 2
      · rw [if_neg k1, if_pos k2, mem_possF]; simp [k2]
      · by_cases k3 : d.kind = 3
        · rw [if_neg k1, if_neg k2, if_pos k3, mem_possU]; simp [k3]
        · rw [if_neg k1, if_neg k2, if_neg k3]; simp [k1, k2, k3]
theorem poss_cong {s s' : Sch} (hf : ∀ n, findO s' n = findO s n) (hm : ∀ d, d ∈ s'.defs ↔ d ∈ s.defs) (name x : Str) : x ∈ possB s' name ↔ x ∈ possB s name := by
  rw [mem_poss, mem_poss, hf]
  simp only [hm, kindB_cong hf]
theorem subB_cong {s s' : Sch} (hf : ∀ n, findO s' n = findO s n) (hm : ∀ d, d ∈ s'.defs ↔ d ∈ s.defs) (a b : Typ) : subB s' a b = subB s a b := by
  unfold subB
  rw [findR_cong hf, kindB_cong hf]
  have : decide (a.name ∈ possB s' b.name) = decide (a.name ∈ possB s b.name) := by rw [Bool.eq_iff_iff, decide_eq_true_eq, decide_eq_true_eq]; exact poss_cong hf hm _ _
  rw [this]
theorem every_cong {s s' : Sch} (hm : ∀ d, d ∈ s'.defs ↔ d ∈ s.defs) {f f' : Dfn → Bool} (h : ∀ d ∈ s.defs, f' d = f d) : everyB s' f' = everyB s f := by
  unfold everyB
  congr 1
  rw [Bool.eq_iff_iff, List.any_eq_true, List.any_eq_true]
  exact ⟨fun ⟨d, hd, e⟩ => ⟨d, (hm d).1 hd, by rw [← h d ((hm d).1 hd)]; exact e⟩, fun ⟨d, hd, e⟩ => ⟨d, (hm d).2 hd, by rw [h d hd]; exact e⟩⟩
theorem perm_find {l l' : List Dfn} (hp : l'.Perm l) (hn : (l.map Dfn.name).Nodup) (n : Str) : l'.find? (fun d => d.name == n) = l.find? (fun d => d.name == n) := by
  have hn' : (l'.map Dfn.name).Nodup := (hp.map Dfn.name).nodup_iff.2 hn
  cases h : l.find? (fun d => d.name == n) with
  | none =>
    rw [List.find?_eq_none] at h ⊢
    exact fun d hd => h d (hp.mem_iff.1 hd)
  | some d =>
    have h1 := List.mem_of_find?_eq_some h
    have h2 : d.name = n := by simpa using List.find?_some h
    subst h2
    exact nodup_find hn' (hp.mem_iff.2 h1)
theorem all_mem {α : Type} {l l' : List α} (hm : ∀ d, d ∈ l' ↔ d ∈ l) (p : α → Bool) : l'.all p = l.all p := by
  rw [Bool.eq_iff_iff, List.all_eq_true, List.all_eq_true]
  exact ⟨fun h d hd => h d ((hm d).2 hd), fun h d hd => h d ((hm d).1 hd)⟩
theorem any_mem {α : Type} {l l' : List α} (hm : ∀ d, d ∈ l' ↔ d ∈ l) (p : α → Bool) : l'.any p = l.any p := by
  rw [Bool.eq_iff_iff, List.any_eq_true, List.any_eq_true]
  exact ⟨fun ⟨d, hd, h⟩ => ⟨d, (hm d).1 hd, h⟩, fun ⟨d, hd, h⟩ => ⟨d, (hm d).2 hd, h⟩⟩
theorem turned {s : Sch} {defs' : List Dfn} (hp : defs'.Perm s.defs) (h : checkI s = 0) : checkI ⟨defs', s.query, s.mutation⟩ = 0 := by
  obtain ⟨h1, h2, h3, h4, h5, h6, h7, h8, h9⟩ := check_zero.1 h
  obtain ⟨g1, g2, g3, g4⟩ := named_iff.1 h1
  have hm : ∀ d, d ∈ (⟨defs', s.query, s.mutation⟩ : Sch).defs ↔ d ∈ s.defs := fun d => hp.mem_iff
  have hf : ∀ n, findO ⟨defs', s.query, s.mutation⟩ n = findO s n := fun n => by
    unfold findO
    split
    · rfl
    · exact perm_find hp g2 n
  have hnm : ∀ n, n ∈ dNames ⟨defs', s.query, s.mutation⟩ ↔ n ∈ dNames s := fun n => (hp.map Dfn.name).mem_iff
  have hk := kindB_cong hf
  have hent : ∀ l, entriesB ⟨defs', s.query, s.mutation⟩ l = entriesB s l := fun l => by unfold entriesB entryB; simp only [hk]
  have hrt : ∀ l, rightB ⟨defs', s.query, s.mutation⟩ l = rightB s l := fun l => by unfold rightB; simp only [litR_cong hf]
  refine check_zero.2 ⟨?_, ?_, ?_, ?_, ?_, ?_, ?_, ?_, ?_⟩
  · refine named_iff.2 ⟨?_, (hp.map Dfn.name).nodup_iff.2 g2, fun n hn => g3 n ((hnm n).1 hn), fun n hn => by rw [hk]; exact g4 n ((hnm n).1 hn)⟩
    have : sdlOk ⟨defs', s.query, s.mutation⟩ = sdlOk s := by unfold sdlOk; rw [all_mem hm]
    rw [this]; exact g1
  · have : rootsB ⟨defs', s.query, s.mutation⟩ = rootsB s := by unfold rootsB; rw [hk, hk]
    rw [this]; exact h2
  · rw [show soleB ⟨defs', s.query, s.mutation⟩ = soleB s from every_cong hm (fun _ _ => rfl)]; exact h3
  · rw [show typedB ⟨defs', s.query, s.mutation⟩ = typedB s from every_cong hm (fun d _ => by unfold typed1 leafB compB; simp only [hk, hent])]; exact h4
  · rw [show facesB ⟨defs', s.query, s.mutation⟩ = facesB s from every_cong hm (fun d _ => by
      unfold faces1
      congr 2
      funext n
      unfold face2
      rw [findR_cong hf])]; exact h5
  · rw [show keptB ⟨defs', s.query, s.mutation⟩ = keptB s from every_cong hm (fun d _ => by
      unfold kept1
      congr 2
      funext n
      unfold hasB
      rw [findR_cong hf]
      congr 2
      funext g
      cases fldO d.fields g.name with
      | none => rfl
      | some f => simp only [subB_cong hf hm])]; exact h6
  · rw [show partsB ⟨defs', s.query, s.mutation⟩ = partsB s from every_cong hm (fun d _ => by unfold parts1; simp only [hk])]; exact h7
  · rw [show openB ⟨defs', s.query, s.mutation⟩ = openB s from every_cong hm (fun d _ => by unfold open1; rw [rings_cong hf])]; exact h8
  · rw [show dfltsB ⟨defs', s.query, s.mutation⟩ = dfltsB s from every_cong hm (fun d _ => by unfold dflts1 leafB; simp only [hk, hrt])]; exact h9
theorem rotate_perm {α : Type} (l : List α) (k : Nat) : (l.drop k ++ l.take k).Perm l := by
  have h := List.perm_append_comm (l₁ := l.drop k) (l₂ := l.take k)
  rwa [List.take_append_drop] at h
theorem find_named {s : Sch} {n : Str} {d : Dfn} (h : findO s n = some d) (hk : d.kind ≠ 0) : d ∈ s.defs ∧ d.name = n := by
  unfold findO at h
  split at h
  · cases h; exact absurd rfl hk
  · exact ⟨List.mem_of_find?_eq_some h, by simpa using List.find?_some h⟩
end Go.Proofs.YtegakkonlhmeaaaGreatDoor
set_option linter.unusedVariables false
set_option linter.unusedSimpArgs false
namespace Go.Proofs.YtegakkonlhmeaaaGreatDoor
open Go Go.Av
set_option maxRecDepth 100000
set_option maxHeartbeats 16000000
attribute [local irreducible] HCode AOps PFn AFn Av.Step TStep

def schA : Sch := ⟨[⟨1, [81, 117, 101, 114, 121], [], [⟨[97], [], ⟨[73, 110, 116], 0, 0⟩, []⟩], [], []⟩], [81, 117, 101, 114, 121], []⟩
def schB : Sch := ⟨[], [81, 117, 101, 114, 121], []⟩
theorem schA_ok : schA.ok := fun d hd => by
  simp only [schA, List.mem_cons, List.not_mem_nil, or_false] at hd
  subst hd
  refine ⟨fun f hf => ?_, fun p hp => by simp at hp⟩
  simp only [List.mem_cons, List.not_mem_nil, or_false] at hf
  subst hf
  exact ⟨fun p hp => by simp at hp, fun p hp => by simp at hp⟩
theorem schB_ok : schB.ok := fun d hd => by simp [schB] at hd
theorem schA_check : checkI schA = 0 := by decide +kernel
theorem schB_check : checkI schB = 2 := by decide +kernel
theorem schA_9 : ruleB schA 9 = true := by decide +kernel
theorem schA_10 : ruleB schA 10 = false := by decide +kernel
theorem weak_schA {t1 t2 t3 t4 t5 t6 t7 : Tk} : WeakL [.agg [.slice [.agg [.int .i64 1, .str [81, 117, 101, 114, 121], .slice [] t1, .slice [.agg [.str [97], .slice [] t2, .str [73, 110, 116], .int .i64 0, .int .i64 0, .slice [] t3]] t4, .slice [] t5, .slice [] t6]] t7, .str [81, 117, 101, 114, 121], .str []]] [schA.enc] := by
  refine WeakL.cons (Weak.agg (WeakL.cons (Weak.no (WeakL.cons ?_ (WeakL.refl _))) (WeakL.refl _))) (WeakL.refl _)
  refine Weak.agg (WeakL.cons (Weak.refl _) (WeakL.cons (Weak.refl _) (WeakL.cons (Weak.no (WeakL.refl _)) (WeakL.cons (Weak.no (WeakL.cons ?_ (WeakL.refl _))) (WeakL.cons (Weak.no (WeakL.refl _)) (WeakL.cons (Weak.no (WeakL.refl _)) (WeakL.refl _)))))))
  exact Weak.agg (WeakL.cons (Weak.refl _) (WeakL.cons (Weak.no (WeakL.refl _)) (WeakL.cons (Weak.refl _) (WeakL.cons (Weak.refl _) (WeakL.cons (Weak.refl _) (WeakL.cons (Weak.no (WeakL.refl _)) (WeakL.refl _)))))))
theorem weak_schA9 {n : Int} {t1 t2 t3 t4 t5 t6 t7 : Tk} : WeakL [.agg [.slice [.agg [.int .i64 1, .str [81, 117, 101, 114, 121], .slice [] t1, .slice [.agg [.str [97], .slice [] t2, .str [73, 110, 116], .int .i64 0, .int .i64 0, .slice [] t3]] t4, .slice [] t5, .slice [] t6]] t7, .str [81, 117, 101, 114, 121], .str []], .int .i64 n] [schA.enc, .int .i64 n] := by
  refine WeakL.cons ?_ (WeakL.refl _)
  exact (fun g w v h => by
    obtain ⟨u, r, e, h1, h2⟩ := weak_schA (t1 := t1) (t2 := t2) (t3 := t3) (t4 := t4) (t5 := t5) (t6 := t6) (t7 := t7) g w [v] ⟨v, [], rfl, h, rfl⟩
    cases e
    exact h1)
theorem weak_schB {t : Tk} : WeakL [.agg [.slice [] t, .str [81, 117, 101, 114, 121], .str []]] [schB.enc] := WeakL.cons (Weak.agg (WeakL.cons (Weak.no (WeakL.refl _)) (WeakL.refl _))) (WeakL.refl _)
theorem awake11 : PFn Tryz.prog 14 [] (.bool true) := by
  have h1 := wCheckS schA (by decide) schA_ok
  rw [schA_check] at h1
  have h2 := wCheckS schB (by decide) schB_ok
  rw [schB_check] at h2
  have h3 := wRule schA 9 (by decide) (wNamed schA (by decide) schA_ok)
  rw [schA_9] at h3
  have h4 := wRule schA 10 (by decide) (wNamed schA (by decide) schA_ok)
  rw [schA_10] at h4
  refine AFn.plain rfl rfl (AFn.enter [0] Tryz.func14 rfl rfl rfl rfl rfl (by decide) ?_)
  repeat' first
    | refine A.call rfl h1 weak_schA ?_ | refine A.call rfl h2 weak_schB ?_ | refine A.call rfl h3 weak_schA9 ?_ | refine A.call rfl h4 weak_schA9 ?_
    | refine .seq ?_ | refine .rg ?_ | refine .rd ?_ | refine .block ?_ | refine .scope ?_ | refine .skip ?_ | refine .label ?_ | refine .exit ?_ | refine .ret ?_
    | refine .ct ?_ | refine .cf ?_ | refine .cy ?_ | refine .cn ?_ | (refine .cond rfl ?_ ?_ <;> intro hc)
    | refine A.nil_seq ?_ | refine .nl ?_ | refine .dd ?_ | refine .ys ?_ | refine .no ?_ | (refine A.guard rfl ?_ ?_ <;> intro hc)
    | refine .lb ?_ | refine .ln ?_ | refine .ls ?_ | refine .pv ?_ | refine .ix ?_ | refine .pt ?_ | refine .pf ?_ | refine .bx ?_ | refine .al ?_ | refine .st ?_ | refine .ad ?_ | refine .sb ?_ | refine .mf ?_ | refine .cl ?_ | refine .cw ?_ | refine .ck ?_ | fail
  exact Fin.ret1 rfl (Weak.refl _)

theorem wrap_u64 (n : Int) : ∃ u : Nat, IntKind.u64.wrap n = (u : Int) ∧ u < 18446744073709551616 := by
  refine ⟨(n % 18446744073709551616).toNat, ?_, by omega⟩
  have h : IntKind.u64.wrap n = n % 18446744073709551616 := by
    simp [IntKind.wrap, IntKind.signed, IntKind.bits]
  rw [h]; omega
theorem wrap_u64_nat {n : Nat} (h : n < 18446744073709551616) : IntKind.u64.wrap (n : Int) = (n : Int) := by
  have h : IntKind.u64.wrap (n : Int) = (n : Int) % 18446744073709551616 := by
    simp [IntKind.wrap, IntKind.signed, IntKind.bits]
  rw [h]; omega
theorem sum_app {α : Type} (f : α → Nat) : ∀ a b : List α, sumSize f (a ++ b) = sumSize f a + sumSize f b
  | [], b => by simp [sumSize]
  | x :: a, b => by rw [List.cons_append, sumSize, sumSize, sum_app f a b]; omega
end Go.Proofs.YtegakkonlhmeaaaGreatDoor
namespace Go.Proofs.YtegakkonlhmeaaaGreatDoor
open Go Go.Av
set_option maxRecDepth 100000
set_option linter.unusedVariables false
set_option linter.unusedSimpArgs false
set_option linter.unusedSectionVars false

theorem findO_mem5 {s : Sch} {name : Str} {d : Dfn} (h : findO s name = some d) (hk : d.kind = 5) : d ∈ s.defs := by
  unfold findO at h
  split at h
  · cases h; exact absurd hk (show (0 : Int) ≠ 5 by decide)
  · exact List.mem_of_find?_eq_some h
def enumD (name : Str) (l : List Str) : Dfn := ⟨4, name, [], [], l, []⟩
def grown (s : Sch) (name : Str) (l : List Str) : Sch := ⟨s.defs ++ [enumD name l], s.query, s.mutation⟩
theorem findO_grown {s : Sch} {name : Str} {l : List Str} (hn : findO s name = none) (n : Str) : findO (grown s name l) n = if n = name then some (enumD name l) else findO s n := by
  unfold findO at hn ⊢
  by_cases hs : scalarB n = true
  · rw [if_pos hs, if_pos hs, if_neg]
    rintro rfl
    rw [if_pos hs] at hn
    cases hn
  · rw [if_neg hs, if_neg hs]
    show (s.defs ++ [enumD name l]).find? _ = _
    rw [List.find?_append]
    by_cases e : n = name
    · subst e
      rw [if_neg hs] at hn
      rw [hn, if_pos rfl]
      simp [enumD]
    · rw [if_neg e]
      have : ((enumD name l).name == n) = false := by
        rw [beq_eq_false_iff_ne]
        exact fun h => e h.symm
      rw [List.find?_cons, this]
      simp
section
variable {s : Sch} {name : Str} {l : List Str} (hn : findO s name = none)
include hn
theorem ne_found {n : Str} (h : (findR s n).2 = true) : n ≠ name := by
  rintro rfl
  unfold findR at h
  rw [hn] at h
  cases h
theorem findR_other {n : Str} (h : n ≠ name) : findR (grown s name l) n = findR s n := by
  unfold findR
  rw [findO_grown hn, if_neg h]
theorem findR_new : findR (grown s name l) name = (enumD name l, true) := by
  unfold findR
  rw [findO_grown hn, if_pos rfl]
theorem kind_not {n : Str} {ks : List Int} (h4 : (4 : Int) ∉ ks) : kindB (grown s name l) n ks = kindB s n ks := by
  by_cases e : n = name
  · subst e
    have h0 : kindB s n ks = false := by unfold kindB findR; rw [hn]; rfl
    rw [h0]
    unfold kindB
    rw [findR_new hn]
    show (true && decide ((4 : Int) ∈ ks)) = false
    rw [decide_eq_false h4]; rfl
  · unfold kindB
    rw [findR_other hn e]
theorem kind_found {n : Str} {ks : List Int} (h : kindB s n ks = true) : kindB (grown s name l) n ks = true := by
  have h1 : (findR s n).2 = true := by unfold kindB at h; rw [Bool.and_eq_true] at h; exact h.1
  unfold kindB
  rw [findR_other hn (ne_found hn h1)]
  exact h
theorem needsP_grown (n : Str) : needsP (grown s name l) n = needsP s n := by
  have ha : needAdd (grown s name l) = needAdd s := by
    funext ls p
    unfold needAdd needP
    rw [kind_not hn (by decide)]
  unfold needsP
  rw [ha]
  by_cases e : n = name
  · subst e
    rw [findR_new hn]
    unfold findR
    rw [hn]; rfl
  · rw [findR_other hn e]
theorem poss_grown {n : Str} (h : n ≠ name) (x : Str) : x ∈ possB (grown s name l) n ↔ x ∈ possB s n := by
  rw [mem_poss, mem_poss, findO_grown hn, if_neg h]
  constructor
  · rintro ⟨d, h1, h2⟩
    refine ⟨d, h1, ?_⟩
    rcases h2 with h2 | ⟨h2, e, he, h3⟩ | ⟨h2, h3, h4⟩
    · exact .inl h2
    · refine .inr (.inl ⟨h2, e, ?_, h3⟩)
      rcases List.mem_append.1 he with he | he
      · exact he
      · rw [List.mem_singleton.1 he] at h3
        exact absurd h3.1 (by simp [enumD])
    · exact .inr (.inr ⟨h2, h3, by rwa [kind_not hn (by decide)] at h4⟩)
  · rintro ⟨d, h1, h2⟩
    refine ⟨d, h1, ?_⟩
    rcases h2 with h2 | ⟨h2, e, he, h3⟩ | ⟨h2, h3, h4⟩
    · exact .inl h2
    · exact .inr (.inl ⟨h2, e, List.mem_append_left _ he, h3⟩)
    · exact .inr (.inr ⟨h2, h3, by rwa [kind_not hn (by decide)]⟩)
theorem subB_grown {a b : Typ} (ha : a.name ≠ name) (hb : b.name ≠ name) : subB (grown s name l) a b = subB s a b := by
  unfold subB
  rw [findR_other hn ha, kind_not hn (by decide)]
  have : decide (a.name ∈ possB (grown s name l) b.name) = decide (a.name ∈ possB s b.name) := by rw [Bool.eq_iff_iff, decide_eq_true_eq, decide_eq_true_eq]; exact poss_grown hn hb _
  rw [this]
end
theorem typed_dfn {s : Sch} (h : typedB s = true) {d : Dfn} (hd : d ∈ s.defs) : (∀ p ∈ d.params, entryB s p.t.name = true) ∧ ∀ f ∈ d.fields, (leafB s f.t.name = true ∨ compB s f.t.name = true) ∧ ∀ p ∈ f.params, entryB s p.t.name = true := by
  have h0 : typed1 s d = true := every_iff.1 h d hd
  unfold typed1 entriesB at h0
  simp only [Bool.not_eq_true', List.any_eq_false, Bool.not_eq_true, Bool.not_eq_false', Bool.not_eq_false, Bool.and_eq_true, Bool.or_eq_false_iff, Bool.and_eq_false_iff] at h0
  obtain ⟨h1, h2⟩ := h0
  exact ⟨h1, fun f hf => (h2 f hf)⟩
theorem kind_is {s : Sch} {n : Str} {ks : List Int} (h : kindB s n ks = true) : (findR s n).2 = true := by unfold kindB at h; rw [Bool.and_eq_true] at h; exact h.1
theorem parO_mem {ps : List Par} {n : Str} {p : Par} (h : parO ps n = some p) : p ∈ ps := List.mem_of_find?_eq_some h
section
variable {s : Sch} {name : Str} {l : List Str} (hn : findO s name = none) (ht : typedB s = true)
include hn ht
mutual
theorem fitsV_grown : ∀ (v : Val) (t : Typ) (w : Bool), t.name ≠ name → fitsV (grown s name l) v t w = fitsV s v t w
  | .mk k n str vs m, t, w, h => by
    have hb : bareB (grown s name l) t.name k n str (fun ps => fitsM (grown s name l) ps m [] && needsB m ps) = bareB s t.name k n str (fun ps => fitsM s ps m [] && needsB m ps) := by
      unfold bareB
      rw [findO_grown hn, if_neg h]
      cases ho : findO s t.name with
      | none => rfl
      | some d =>
        simp only
        by_cases k5 : d.kind = 5
        · have hd := findO_mem5 ho k5
          rw [fitsM_grown m d.params [] (fun p hp => ne_found hn (kind_is ((typed_dfn ht hd).1 p hp)))]
        · rw [if_neg k5, if_neg k5]
    rw [fitsV, fitsV, hb, fitsL_grown vs (itemT t) h]
theorem fitsL_grown : ∀ (vs : List Val) (t : Typ), t.name ≠ name → fitsL (grown s name l) vs t = fitsL s vs t
  | [], t, h => by rw [fitsL, fitsL]
  | v :: vs, t, h => by rw [fitsL, fitsL, fitsV_grown v t true h, fitsL_grown vs t h]
theorem fitsM_grown : ∀ (m : List Mem) (ps : List Par) (seen : List Str), (∀ p ∈ ps, p.t.name ≠ name) → fitsM (grown s name l) ps m seen = fitsM s ps m seen
  | [], ps, seen, h => by rw [fitsM, fitsM]
  | .mk nm v :: m, ps, seen, h => by
    rw [fitsM, fitsM, fitsM_grown m ps _ h]
    cases hp : parO ps nm with
    | none => rfl
    | some p => simp only; rw [fitsV_grown v p.t false (h p (parO_mem hp))]
end
end
/-- May the enum be? -/
def enumOk (name : Str) (l : List Str) : Prop := nameB name = true ∧ own2 name = false ∧ (∀ x ∈ l, partOk x = true) ∧ l.Nodup
theorem scalar_findO {s : Sch} {n : Str} (h : scalarB n = true) : findO s n = some ⟨0, n, [], [], [], []⟩ := by unfold findO; rw [if_pos h]
theorem grows {s : Sch} {name : Str} {l : List Str} (hl : l ≠ []) (h : checkI s = 0) : checkI (grown s name l) = 0 ↔ enumOk name l ∧ findO s name = none := by
  obtain ⟨h1, h2, h3, h4, h5, h6, h7, h8, h9⟩ := check_zero.1 h
  obtain ⟨g1, g2, g3, g4⟩ := named_iff.1 h1
  have hmem : enumD name l ∈ (grown s name l).defs := List.mem_append_right _ (List.mem_singleton.2 rfl)
  constructor
  · intro k
    obtain ⟨k1, k2, k3, k4, k5, k6, k7, k8, k9⟩ := check_zero.1 k
    obtain ⟨q1, q2, q3, q4⟩ := named_iff.1 k1
    have hnm : name ∈ dNames (grown s name l) := List.mem_map.2 ⟨_, hmem, rfl⟩
    have e := sdl_dfn q1 hmem
    unfold dfnOk at e
    rw [if_neg (by simp [enumD]), if_neg (by simp [enumD]), if_pos (by simp [enumD])] at e
    simp only [Bool.and_eq_true, List.all_eq_true] at e
    refine ⟨⟨e.2.1, q3 _ hnm, e.2.2, ?_⟩, ?_⟩
    · have := (single_fields k3 hmem).2.2.1
      unfold onceB at this
      exact of_decide_eq_true this
    · unfold findO
      rw [if_neg]
      · rw [List.find?_eq_none]
        intro d hd
        have : (dNames (grown s name l)) = dNames s ++ [name] := by unfold dNames grown; simp [enumD]
        rw [this, List.nodup_append] at q2
        have := q2.2.2 d.name (List.mem_map.2 ⟨d, hd, rfl⟩) name (List.mem_singleton.2 rfl)
        simpa using this
      · intro hs
        have := q4 _ hnm
        unfold kindB findR at this
        rw [scalar_findO hs] at this
        simp at this
  · rintro ⟨⟨n1, n2, n3, n4⟩, hn⟩
    have hmm : ∀ d, d ∈ (grown s name l).defs ↔ d ∈ s.defs ∨ d = enumD name l := fun d => by
      show d ∈ s.defs ++ [enumD name l] ↔ _
      rw [List.mem_append, List.mem_singleton]
    have hdf := fun {d : Dfn} (hd : d ∈ s.defs) => typed_dfn h4 hd
    have ev : ∀ {f' f : Dfn → Bool}, everyB s f = true → (∀ d ∈ s.defs, f d = true → f' d = true) → f' (enumD name l) = true → everyB (grown s name l) f' = true := fun hf hs he => every_iff.2 fun d hd => by
      rcases (hmm d).1 hd with hd | rfl
      · exact hs d hd (every_iff.1 hf d hd)
      · exact he
    refine check_zero.2 ⟨?_, ?_, ?_, ?_, ?_, ?_, ?_, ?_, ?_⟩
    · have hdn : dNames (grown s name l) = dNames s ++ [name] := by unfold dNames grown; simp [enumD]
      refine named_iff.2 ⟨?_, ?_, fun n hm => ?_, fun n hm => ?_⟩
      · unfold sdlOk at g1 ⊢
        simp only [Bool.and_eq_true, List.all_eq_true] at g1 ⊢
        refine ⟨g1.1, g1.2.1, fun d hd => ?_⟩
        rcases (hmm d).1 hd with hd | rfl
        · exact g1.2.2 d hd
        · unfold dfnOk
          rw [if_neg (by simp [enumD]), if_neg (by simp [enumD]), if_pos (by simp [enumD])]
          simp only [Bool.and_eq_true, List.all_eq_true, decide_eq_true_eq]
          exact ⟨⟨hl, rfl, rfl, rfl⟩, n1, n3⟩
      · rw [hdn, List.nodup_append]
        refine ⟨g2, by simp, fun a ha b hb => ?_⟩
        rw [List.mem_singleton.1 hb]
        rintro rfl
        obtain ⟨d, hd, rfl⟩ := List.mem_map.1 ha
        rw [named_find h1 hd] at hn
        cases hn
      · rw [hdn] at hm
        rcases List.mem_append.1 hm with hm | hm
        · exact g3 n hm
        · rw [List.mem_singleton.1 hm]; exact n2
      · rw [hdn] at hm
        rw [kind_not hn (by decide)]
        rcases List.mem_append.1 hm with hm | hm
        · exact g4 n hm
        · rw [List.mem_singleton.1 hm]
          unfold kindB findR
          rw [hn]; rfl
    · unfold rootsB at h2 ⊢
      rw [kind_not hn (by decide), kind_not hn (by decide)]
      exact h2
    · exact ev h3 (fun _ _ h => h) (by
        unfold sole1
        simp only [enumD, List.map_nil, List.any_nil, Bool.not_false, Bool.and_true, Bool.true_and]
        have e0 : goodNames [] = true := by decide
        have e1 : onceB [] = true := by decide
        rw [e0, e1]
        simpa [onceB] using n4)
    · refine ev h4 (fun d hd _ => ?_) (by unfold typed1 entriesB enumD; simp)
      obtain ⟨t1, t2⟩ := hdf hd
      unfold typed1 entriesB
      simp only [Bool.and_eq_true, Bool.not_eq_true', List.any_eq_false, Bool.not_eq_true, Bool.not_eq_false', Bool.not_eq_false, Bool.or_eq_false_iff, Bool.and_eq_false_iff]
      refine ⟨fun p hp => kind_found hn (t1 p hp), fun f hf => ⟨?_, fun p hp => kind_found hn ((t2 f hf).2 p hp)⟩⟩
      rcases (t2 f hf).1 with h | h
      · exact .inl (kind_found hn h)
      · exact .inr (kind_found hn h)
    · refine ev h5 (fun d hd h => ?_) (by simp [faces1, enumD])
      unfold faces1 at h ⊢
      simp only [Bool.not_eq_true', List.any_eq_false, Bool.not_eq_true] at h ⊢
      intro n hm
      have := h n hm
      unfold face2 at this ⊢
      have hf2 : (findR s n).2 = true := by cases e : (findR s n).2 <;> simp_all
      rw [findR_other hn (ne_found hn hf2)]
      exact this
    · refine ev h6 (fun d hd h => ?_) (by simp [kept1, enumD])
      unfold kept1 at h ⊢
      simp only [Bool.not_eq_true', List.any_eq_false, Bool.not_eq_true, Bool.not_eq_false', Bool.not_eq_false] at h ⊢
      intro n hm
      have h0 := h n hm
      have h50 := every_iff.1 h5 d hd
      unfold faces1 at h50
      simp only [Bool.not_eq_true', List.any_eq_false, Bool.not_eq_true] at h50
      have h51 := h50 n hm
      unfold face2 at h51
      have hf2 : (findR s n).2 = true := by cases e : (findR s n).2 <;> simp_all
      unfold hasB at h0 ⊢
      rw [findR_other hn (ne_found hn hf2)]
      rw [List.all_eq_true] at h0 ⊢
      intro g hg
      have h01 := h0 g hg
      have hx : (findR s n).1 ∈ s.defs := by
        rcases findR_in s n with h1 | h1 | h1
        · exact h1
        · rw [h1] at hg; simp at hg
        · rw [h1] at hg; simp [zeroD] at hg
      have tg : g.t.name ≠ name := by
        rcases ((hdf hx).2 g hg).1 with h | h <;> exact ne_found hn (kind_is h)
      cases hfo : fldO d.fields g.name with
      | none => rw [hfo] at h01; exact h01
      | some f =>
        rw [hfo] at h01
        have tf : f.t.name ≠ name := by
          rcases ((hdf hd).2 f (List.mem_of_find?_eq_some hfo)).1 with h | h <;> exact ne_found hn (kind_is h)
        simp only at h01 ⊢
        rw [subB_grown hn tf tg]
        exact h01
    · refine ev h7 (fun d hd h => ?_) (by simp [parts1, enumD])
      unfold parts1 at h ⊢
      simp only [kind_not hn (show (4 : Int) ∉ [1] by decide)]
      exact h
    · refine ev h8 (fun d hd h => ?_) (by simp [open1, enumD])
      have : ringsB (grown s name l) d.name = ringsB s d.name := by
        rw [Bool.eq_iff_iff, rings_iff, rings_iff, show needsP (grown s name l) = needsP s from funext (needsP_grown hn)]
      unfold open1 at h ⊢
      rw [this]
      exact h
    · have rt : ∀ ps : List Par, (∀ p ∈ ps, entryB s p.t.name = true) → rightB s ps = true → rightB (grown s name l) ps = true := fun ps hps h => by
        unfold rightB at h ⊢
        simp only [Bool.not_eq_true', List.any_eq_false, Bool.not_eq_true] at h ⊢
        intro p hp
        unfold litR
        rw [fitsV_grown hn h4 p.d p.t false (ne_found hn (kind_is (hps p hp)))]
        exact h p hp
      refine ev h9 (fun d hd h => ?_) (by simp [dflts1, rightB, enumD])
      obtain ⟨t1, t2⟩ := hdf hd
      unfold dflts1 at h ⊢
      simp only [Bool.and_eq_true, Bool.not_eq_true', List.any_eq_false, Bool.not_eq_true, Bool.not_eq_false', Bool.not_eq_false, Bool.and_eq_false_iff] at h ⊢
      refine ⟨rt _ t1 h.1, fun p hp => ?_, fun f hf => rt _ (t2 f hf).2 (h.2.2 f hf)⟩
      rintro ⟨e1, e2⟩
      have e3 : leafB s p.t.name = true := by
        cases e : leafB s p.t.name with
        | true => rfl
        | false => exact absurd ⟨e1, e⟩ (h.2.1 p hp)
      have e4 : leafB (grown s name l) p.t.name = true := kind_found hn e3
      rw [e4] at e2; cases e2
end Go.Proofs.YtegakkonlhmeaaaGreatDoor
set_option linter.unusedVariables false
set_option linter.unusedSimpArgs false
namespace Go.Proofs.YtegakkonlhmeaaaGreatDoor
open Go Go.Av
set_option maxRecDepth 100000
set_option maxHeartbeats 4000000
attribute [local irreducible] HCode AOps PFn AFn Av.Step TStep

def goodN (name : Str) : Bool := nameB name && !own2 name
def gK (name : Str) (l : List Str) : Bool := goodN name && (l.all partOk && decide l.Nodup)
theorem gK_snoc (name : Str) (l : List Str) (x : Str) : gK name (l ++ [x]) = ((gK name l && partOk x) && decide (x ∉ l)) := by
  have h : decide (l ++ [x]).Nodup = (decide l.Nodup && decide (x ∉ l)) := by
    rw [Bool.eq_iff_iff, decide_eq_true_eq, Bool.and_eq_true, decide_eq_true_eq, decide_eq_true_eq, List.nodup_append]
    constructor
    · rintro ⟨h1, _, h3⟩
      exact ⟨h1, fun hm => h3 _ hm _ (List.mem_singleton.2 rfl) rfl⟩
    · rintro ⟨h1, h2⟩
      exact ⟨h1, by simp, fun a ha b hb => by rw [List.mem_singleton.1 hb]; rintro rfl; exact h2 ha⟩
  unfold gK
  rw [h, List.all_append]
  simp only [List.all_cons, List.all_nil, Bool.and_true]
  cases goodN name <;> cases l.all partOk <;> cases decide l.Nodup <;> cases partOk x <;> cases decide (x ∉ l) <;> rfl
theorem gK_ok (name : Str) (l : List Str) : gK name l = true ↔ enumOk name l := by
  unfold gK goodN enumOk
  simp only [Bool.and_eq_true, decide_eq_true_eq, List.all_eq_true, Bool.not_eq_true']
  constructor
  · rintro ⟨⟨h1, h2⟩, h3, h4⟩; exact ⟨h1, h2, h3, h4⟩
  · rintro ⟨h1, h2, h3, h4⟩; exact ⟨⟨h1, h2⟩, h3, h4⟩
theorem not_mem_take {l : List Str} {x : Str} {j : Nat} (h : j < l.length) : decide (x ∉ l.take (j + 1)) = (decide (x ∉ l.take j) && (x != l[j])) := by
  rw [List.take_succ_eq_append_getElem h, Bool.eq_iff_iff, decide_eq_true_eq, Bool.and_eq_true, decide_eq_true_eq, bne_iff_ne, List.mem_append, List.mem_singleton, not_or]
abbrev dfnOb (d : Dfn) : Ob := .cells [.int .i64 d.kind, .str d.name, .slice (d.faces.map AV.str) .no, .slice (d.fields.map Fld.enc) .no, .slice (d.parts.map AV.str) .no, .slice (d.params.map Par.enc) .no]
abbrev schOb (s : Sch) : Ob := .cells [.slice (s.defs.map Dfn.enc) .no, .str s.query, .str s.mutation]
theorem growsSt_below (s : Sch) (d : Dfn) : (belowB 2 0 [schOb s, dfnOb d] && belowT 2 0 []) = true := by
  simp [belowB, Ob.low, AV.lowL, AV.low, belowT]
theorem schemaGrows (s : Sch) (name : Str) (l : List Str) (hs : s.size + (name.length + 1) + (sumSize (fun x : Str => x.length + 1) l + 1) ≤ 1048576) (ho : s.ok) : PFn Tryz.prog 4 [s.enc, .str name, .slice (l.map AV.str) .no] (.bool true) := by
  have hL := light8 s (by omega)
  have hw := awake11
  have hc := wCheckS s (by omega) ho
  have hN := lName name (by omega)
  have hF := dFind s name (by omega)
  have hss : s.size = sumSize Dfn.size s.defs + s.query.length + s.mutation.length + 4 := rfl
  have hlen := sumSize_length (size := Dfn.size) (fun d => by unfold Dfn.size; omega) s.defs
  have hlenl := sumSize_length (size := fun x : Str => x.length + 1) (fun _ => by omega) l
  have hll : (s.defs.map Dfn.enc).length = s.defs.length := List.length_map ..
  have hll2 : (l.map AV.str).length = l.length := List.length_map ..
  refine AFn.plain rfl (by simp [AV.closedL, AV.closed, Sch.closed, str_closedL]) (AFn.enter [6] Tryz.func4 rfl rfl rfl rfl rfl (by decide) ?_)
  cases c1 : lightS s <;> rw [c1] at hL
  · repeat' first
      | refine .seq ?_ | refine .rg ?_ | refine .rd ?_ | refine .block ?_ | refine .scope ?_ | refine .skip ?_ | refine .label ?_ | refine .exit ?_ | refine .ret ?_
      | refine .ct ?_ | refine .cf ?_ | refine .cy ?_ | refine .cn ?_ | (refine .cond rfl ?_ ?_ <;> intro hc)
      | refine A.nil_seq ?_ | refine .nl ?_ | refine .dd ?_ | refine .ys ?_ | refine .no ?_ | (refine A.guard rfl ?_ ?_ <;> intro hc)
      | refine .lb ?_ | refine .ln ?_ | refine .ls ?_ | refine .pv ?_ | refine .ix ?_ | refine .pt ?_ | refine .pf ?_ | refine .bx ?_ | refine .al ?_ | refine .st ?_ | refine .ad ?_ | refine .sb ?_ | refine .mf ?_ | refine .cl ?_ | refine .cw ?_ | refine .ck ?_ | fail
    exact Fin.ret1 rfl (Weak.refl _)
  cases c2 : decide (200 < (name.length : Int)) with
  | true =>
    repeat' first
      | refine .seq ?_ | refine .rg ?_ | refine .rd ?_ | refine .block ?_ | refine .scope ?_ | refine .skip ?_ | refine .label ?_ | refine .exit ?_ | refine .ret ?_
      | refine .ct ?_ | refine .cf ?_ | refine .cy ?_ | refine .cn ?_ | (refine .cond rfl ?_ ?_ <;> intro hc)
      | refine A.nil_seq ?_ | refine .nl ?_ | refine .dd ?_ | refine .ys ?_ | refine .no ?_ | (refine A.guard rfl ?_ ?_ <;> intro hc)
      | refine .lb ?_ | refine .ln ?_ | refine .ls ?_ | refine .pv ?_ | refine .ix ?_ | refine .pt ?_ | refine .pf ?_ | refine .bx ?_ | refine .al ?_ | refine .st ?_ | refine .ad ?_ | refine .sb ?_ | refine .mf ?_ | refine .cl ?_ | refine .cw ?_ | refine .ck ?_ | fail
    exact Fin.ret1 rfl (Weak.refl _)
  | false =>
  cases c3 : ((l.length : Int) == 0) with
  | true =>
    repeat' first
      | refine .seq ?_ | refine .rg ?_ | refine .rd ?_ | refine .block ?_ | refine .scope ?_ | refine .skip ?_ | refine .label ?_ | refine .exit ?_ | refine .ret ?_
      | refine .ct ?_ | refine .cf ?_ | refine .cy ?_ | refine .cn ?_ | (refine .cond rfl ?_ ?_ <;> intro hc)
      | refine A.nil_seq ?_ | refine .nl ?_ | refine .dd ?_ | refine .ys ?_ | refine .no ?_ | (refine A.guard rfl ?_ ?_ <;> intro hc)
      | refine .lb ?_ | refine .ln ?_ | refine .ls ?_ | refine .pv ?_ | refine .ix ?_ | refine .pt ?_ | refine .pf ?_ | refine .bx ?_ | refine .al ?_ | refine .st ?_ | refine .ad ?_ | refine .sb ?_ | refine .mf ?_ | refine .cl ?_ | refine .cw ?_ | refine .ck ?_ | fail
    exact Fin.ret1 rfl (Weak.refl _)
  | false =>
  cases c4 : decide (20 < (l.length : Int)) with
  | true =>
    repeat' first
      | refine .seq ?_ | refine .rg ?_ | refine .rd ?_ | refine .block ?_ | refine .scope ?_ | refine .skip ?_ | refine .label ?_ | refine .exit ?_ | refine .ret ?_
      | refine .ct ?_ | refine .cf ?_ | refine .cy ?_ | refine .cn ?_ | (refine .cond rfl ?_ ?_ <;> intro hc)
      | refine A.nil_seq ?_ | refine .nl ?_ | refine .dd ?_ | refine .ys ?_ | refine .no ?_ | (refine A.guard rfl ?_ ?_ <;> intro hc)
      | refine .lb ?_ | refine .ln ?_ | refine .ls ?_ | refine .pv ?_ | refine .ix ?_ | refine .pt ?_ | refine .pf ?_ | refine .bx ?_ | refine .al ?_ | refine .st ?_ | refine .ad ?_ | refine .sb ?_ | refine .mf ?_ | refine .cl ?_ | refine .cw ?_ | refine .ck ?_ | fail
    exact Fin.ret1 rfl (Weak.refl _)
  | false =>
  by_cases c5 : checkI s = 0
  case neg =>
    have e5 : (checkI s != 0) = true := by simp [c5]
    repeat' first
      | refine .seq ?_ | refine .rg ?_ | refine .rd ?_ | refine .block ?_ | refine .scope ?_ | refine .skip ?_ | refine .label ?_ | refine .exit ?_ | refine .ret ?_
      | refine .ct ?_ | refine .cf ?_ | refine .cy ?_ | refine .cn ?_ | (refine .cond rfl ?_ ?_ <;> intro hc)
      | refine A.nil_seq ?_ | refine .nl ?_ | refine .dd ?_ | refine .ys ?_ | refine .no ?_ | (refine A.guard rfl ?_ ?_ <;> intro hc)
      | refine .lb ?_ | refine .ln ?_ | refine .ls ?_ | refine .pv ?_ | refine .ix ?_ | refine .pt ?_ | refine .pf ?_ | refine .bx ?_ | refine .al ?_ | refine .st ?_ | refine .ad ?_ | refine .sb ?_ | refine .mf ?_ | refine .cl ?_ | refine .cw ?_ | refine .ck ?_ | fail
    exact Fin.ret1 rfl (Weak.refl _)
  have e5 : (checkI s != 0) = false := by simp [c5]
  rw [c5] at hc
  have hlne : l ≠ [] := by rintro rfl; simp at c3
  have hgr := grows (name := name) hlne c5
  have hz : (grown s name l).size = s.size + (name.length + 1 + (sumSize (fun x : Str => x.length + 1) l + 1) + 5) := by
    show sumSize Dfn.size (s.defs ++ [enumD name l]) + s.query.length + s.mutation.length + 4 = _
    rw [sum_app, hss]
    simp only [sumSize]
    show _ + ((name.length + strsSize [] + 0 + strsSize l + 0 + 5) + 0) + _ + _ + _ = _
    unfold strsSize
    simp only [sumSize]; omega
  have hgo : (grown s name l).ok := fun d hd => by
    rcases List.mem_append.1 hd with h | h
    · exact ho d h
    · rw [List.mem_singleton.1 h]
      exact ⟨fun f hf => (by cases hf), fun p hp => (by cases hp)⟩
  have hc2 := wCheckS (grown s name l) (by rw [hz]; omega) hgo
  have hth : (findR s name).2 = false ↔ findO s name = none := by
    unfold findR
    cases findO s name <;> simp
  generalize hdd : (findR s name).1 = dd at hF
  generalize hbb : (findR s name).2 = bb at hF hth
  have hwk : WeakL [.agg [.slice (([] ++ s.defs.map Dfn.enc) ++ [.agg [.int .i64 4, .str name, .slice [] .nil, .slice [] .nil, .slice (l.map AV.str) .no, .slice [] .nil]]) (.own 0 6), .str s.query, .str s.mutation]] [(grown s name l).enc] := by
    refine WeakL.cons (Weak.agg (WeakL.cons (Weak.no ?_) (WeakL.refl _))) (WeakL.refl _)
    rw [List.nil_append]
    show WeakL _ ((s.defs ++ [enumD name l]).map Dfn.enc)
    rw [List.map_append]
    refine WeakL.app (WeakL.refl _) (WeakL.cons ?_ (WeakL.refl _))
    exact Weak.agg (WeakL.cons (Weak.refl _) (WeakL.cons (Weak.refl _) (WeakL.cons (Weak.no (WeakL.refl _)) (WeakL.cons (Weak.no (WeakL.refl _)) (WeakL.cons (Weak.refl _) (WeakL.cons (Weak.no (WeakL.refl _)) (WeakL.refl _)))))))
  have hg0 : goodN name = (nameB name && !(decide (1 < (name.length : Int)) && (name.take 2 == [95, 95]))) := by
    unfold goodN own2
    by_cases h : 1 < name.length
    · rw [decide_eq_true (show 1 < (name.length : Int) by omega), Bool.true_and]
    · rw [decide_eq_false (show ¬(1 < (name.length : Int)) by omega), Bool.false_and]
      rw [show (name.take 2 == [95, 95]) = false by
        rw [beq_eq_false_iff_ne]; intro e
        have := congrArg List.length e
        rw [List.length_take] at this
        simp only [List.length_cons, List.length_nil] at this
        omega]
  have gnil : gK name (l.take 0) = goodN name := by unfold gK; simp
  repeat' first
      | (
         refine HCode.cut [(7, .bool (goodN name)), (1, .str name), (2, .slice (l.map AV.str) .no), (3, .ptr 0 0)] ⟨[schOb s], []⟩ ?_ ?_
         · cases p1 : nameB name with
           | false =>
             rw [p1] at hN hg0
             repeat' first
                 | refine .seq ?_ | refine .rg ?_ | refine .rd ?_ | refine .block ?_ | refine .scope ?_ | refine .skip ?_ | refine .label ?_ | refine .exit ?_ | refine .ret ?_
                 | refine .ct ?_ | refine .cf ?_ | refine .cy ?_ | refine .cn ?_ | (refine .cond rfl ?_ ?_ <;> intro hc)
                 | refine A.nil_seq ?_ | refine .nl ?_ | refine .dd ?_ | refine .ys ?_ | refine .no ?_ | (refine A.guard rfl ?_ ?_ <;> intro hc)
                 | refine .lb ?_ | refine .ln ?_ | refine .ls ?_ | refine .pv ?_ | refine .ix ?_ | refine .pt ?_ | refine .pf ?_ | refine .bx ?_ | refine .al ?_ | refine .st ?_ | refine .ad ?_ | refine .sb ?_ | refine .mf ?_ | refine .cl ?_ | refine .cw ?_ | refine .ck ?_
                 | refine A.call rfl hN (WeakL.refl _) ?_ | fail
             exact ⟨rfl, ⟨congrArg AV.bool (by rw [hg0]; rfl), rfl, rfl, rfl, trivial⟩, rfl⟩
           | true =>
             rw [p1] at hN hg0
             cases p2 : decide (1 < (name.length : Int)) with
             | false =>
               rw [p2] at hg0
               repeat' first
                   | refine .seq ?_ | refine .rg ?_ | refine .rd ?_ | refine .block ?_ | refine .scope ?_ | refine .skip ?_ | refine .label ?_ | refine .exit ?_ | refine .ret ?_
                   | refine .ct ?_ | refine .cf ?_ | refine .cy ?_ | refine .cn ?_ | (refine .cond rfl ?_ ?_ <;> intro hc)
                   | refine A.nil_seq ?_ | refine .nl ?_ | refine .dd ?_ | refine .ys ?_ | refine .no ?_ | (refine A.guard rfl ?_ ?_ <;> intro hc)
                   | refine .lb ?_ | refine .ln ?_ | refine .ls ?_ | refine .pv ?_ | refine .ix ?_ | refine .pt ?_ | refine .pf ?_ | refine .bx ?_ | refine .al ?_ | refine .st ?_ | refine .ad ?_ | refine .sb ?_ | refine .mf ?_ | refine .cl ?_ | refine .cw ?_ | refine .ck ?_
                   | refine A.call rfl hN (WeakL.refl _) ?_ | fail
               exact ⟨rfl, ⟨congrArg AV.bool (by rw [hg0]; rfl), rfl, rfl, rfl, trivial⟩, rfl⟩
             | true =>
               rw [p2] at hg0
               have hn2 : 2 ≤ name.length := by have := of_decide_eq_true p2; omega
               repeat' first
                   | refine .seq ?_ | refine .rg ?_ | refine .rd ?_ | refine .block ?_ | refine .scope ?_ | refine .skip ?_ | refine .label ?_ | refine .exit ?_ | refine .ret ?_
                   | refine .ct ?_ | refine .cf ?_ | refine .cy ?_ | refine .cn ?_ | (refine .cond rfl ?_ ?_ <;> intro hc)
                   | refine A.nil_seq ?_ | refine .nl ?_ | refine .dd ?_ | refine .ys ?_ | refine .no ?_ | (refine A.guard rfl ?_ ?_ <;> intro hc)
                   | refine .lb ?_ | refine .ln ?_ | refine .ls ?_ | refine .pv ?_ | refine .ix ?_ | refine .pt ?_ | refine .pf ?_ | refine .bx ?_ | refine .al ?_ | refine .st ?_ | refine .ad ?_ | refine .sb ?_ | refine .mf ?_ | refine .cl ?_ | refine .cw ?_ | refine .ck ?_
                   | refine A.call rfl hN (WeakL.refl _) ?_ | refine A.slice_s 0 2 rfl rfl rfl rfl rfl rfl rfl (Nat.zero_le _) hn2 (List.drop_zero ..) ?_ | fail
               exact ⟨rfl, ⟨congrArg AV.bool (by rw [hg0]; rfl), rfl, rfl, rfl, trivial⟩, rfl⟩
         )
      | refine .seq ?_ | refine .rg ?_ | refine .rd ?_ | refine .block ?_ | refine .scope ?_ | refine .skip ?_ | refine .label ?_ | refine .exit ?_ | refine .ret ?_
      | refine .ct ?_ | refine .cf ?_ | refine .cy ?_ | refine .cn ?_ | (refine .cond rfl ?_ ?_ <;> intro hc)
      | refine A.nil_seq ?_ | refine .nl ?_ | refine .dd ?_ | refine .ys ?_ | refine .no ?_ | (refine A.guard rfl ?_ ?_ <;> intro hc)
      | refine .lb ?_ | refine .ln ?_ | refine .ls ?_ | refine .pv ?_ | refine .ix ?_ | refine .pt ?_ | refine .pf ?_ | refine .bx ?_ | refine .al ?_ | refine .st ?_ | refine .ad ?_ | refine .sb ?_ | refine .mf ?_ | refine .cl ?_ | refine .cw ?_ | refine .ck ?_ | fail
  refine HCode.forK l.length (fun k => [(10, .int .i64 k), (7, .bool (gK name (l.take k))), (9, .bool bb), (1, .str name), (2, .slice (l.map AV.str) .no), (3, .ptr 0 0)]) (fun _ => ⟨[schOb s, dfnOb dd], []⟩) (fun _ => True) ⟨rfl, congrArg AV.bool gnil.symm, rfl, rfl, rfl, rfl, trivial⟩ rfl trivial fun k hk _ => ?_
  by_cases h1 : k < l.length
  · have d1 : decide ((k : Int) < (l.length : Int)) = true := by simp [h1]
    have x1 := map_get' (f := AV.str) h1
    have hxm := sumSize_mem (size := fun x : Str => x.length + 1) (List.getElem_mem h1)
    have hNk := lName l[k] (by omega)
    cases c6 : decide (200 < (l[k].length : Int)) with
    | true =>
      repeat' first
        | refine .seq ?_ | refine .rg ?_ | refine .rd ?_ | refine .block ?_ | refine .scope ?_ | refine .skip ?_ | refine .label ?_ | refine .exit ?_ | refine .ret ?_
        | refine .ct ?_ | refine .cf ?_ | refine .cy ?_ | refine .cn ?_ | (refine .cond rfl ?_ ?_ <;> intro hc)
        | refine A.nil_seq ?_ | refine .nl ?_ | refine .dd ?_ | refine .ys ?_ | refine .no ?_ | (refine A.guard rfl ?_ ?_ <;> intro hc)
        | refine .lb ?_ | refine .ln ?_ | refine .ls ?_ | refine .pv ?_ | refine .ix ?_ | refine .pt ?_ | refine .pf ?_ | refine .bx ?_ | refine .al ?_ | refine .st ?_ | refine .ad ?_ | refine .sb ?_ | refine .mf ?_ | refine .cl ?_ | refine .cw ?_ | refine .ck ?_ | fail
      exact Fin.ret1 rfl (Weak.refl _)
    | false =>
      repeat' first
          | (
             refine HCode.cut [(7, .bool (gK name (l.take k) && partOk l[k])), (10, .int .i64 k), (9, .bool bb), (1, .str name), (2, .slice (l.map AV.str) .no), (3, .ptr 0 0)] ⟨[schOb s, dfnOb dd], []⟩ ?_ ?_
             · cases q1 : gK name (l.take k) with
               | false =>
                 repeat' first
                     | refine .seq ?_ | refine .rg ?_ | refine .rd ?_ | refine .block ?_ | refine .scope ?_ | refine .skip ?_ | refine .label ?_ | refine .exit ?_ | refine .ret ?_
                     | refine .ct ?_ | refine .cf ?_ | refine .cy ?_ | refine .cn ?_ | (refine .cond rfl ?_ ?_ <;> intro hc)
                     | refine A.nil_seq ?_ | refine .nl ?_ | refine .dd ?_ | refine .ys ?_ | refine .no ?_ | (refine A.guard rfl ?_ ?_ <;> intro hc)
                     | refine .lb ?_ | refine .ln ?_ | refine .ls ?_ | refine .pv ?_ | refine .ix ?_ | refine .pt ?_ | refine .pf ?_ | refine .bx ?_ | refine .al ?_ | refine .st ?_ | refine .ad ?_ | refine .sb ?_ | refine .mf ?_ | refine .cl ?_ | refine .cw ?_ | refine .ck ?_
                     | refine A.call rfl hNk (WeakL.refl _) ?_ | fail
                 exact ⟨rfl, ⟨congrArg AV.bool (by simp), rfl, rfl, rfl, rfl, rfl, trivial⟩, rfl⟩
               | true =>
                 cases q2 : nameB l[k] with
                 | false =>
                   rw [q2] at hNk
                   repeat' first
                       | refine .seq ?_ | refine .rg ?_ | refine .rd ?_ | refine .block ?_ | refine .scope ?_ | refine .skip ?_ | refine .label ?_ | refine .exit ?_ | refine .ret ?_
                       | refine .ct ?_ | refine .cf ?_ | refine .cy ?_ | refine .cn ?_ | (refine .cond rfl ?_ ?_ <;> intro hc)
                       | refine A.nil_seq ?_ | refine .nl ?_ | refine .dd ?_ | refine .ys ?_ | refine .no ?_ | (refine A.guard rfl ?_ ?_ <;> intro hc)
                       | refine .lb ?_ | refine .ln ?_ | refine .ls ?_ | refine .pv ?_ | refine .ix ?_ | refine .pt ?_ | refine .pf ?_ | refine .bx ?_ | refine .al ?_ | refine .st ?_ | refine .ad ?_ | refine .sb ?_ | refine .mf ?_ | refine .cl ?_ | refine .cw ?_ | refine .ck ?_
                       | refine A.call rfl hNk (WeakL.refl _) ?_ | fail
                   exact ⟨rfl, ⟨congrArg AV.bool (by unfold partOk; rw [q2]; simp), rfl, rfl, rfl, rfl, rfl, trivial⟩, rfl⟩
                 | true =>
                   rw [q2] at hNk
                   cases q3 : (l[k] != sTrue) with
                   | false =>
                     repeat' first
                         | refine .seq ?_ | refine .rg ?_ | refine .rd ?_ | refine .block ?_ | refine .scope ?_ | refine .skip ?_ | refine .label ?_ | refine .exit ?_ | refine .ret ?_
                         | refine .ct ?_ | refine .cf ?_ | refine .cy ?_ | refine .cn ?_ | (refine .cond rfl ?_ ?_ <;> intro hc)
                         | refine A.nil_seq ?_ | refine .nl ?_ | refine .dd ?_ | refine .ys ?_ | refine .no ?_ | (refine A.guard rfl ?_ ?_ <;> intro hc)
                         | refine .lb ?_ | refine .ln ?_ | refine .ls ?_ | refine .pv ?_ | refine .ix ?_ | refine .pt ?_ | refine .pf ?_ | refine .bx ?_ | refine .al ?_ | refine .st ?_ | refine .ad ?_ | refine .sb ?_ | refine .mf ?_ | refine .cl ?_ | refine .cw ?_ | refine .ck ?_
                         | refine A.call rfl hNk (WeakL.refl _) ?_ | fail
                     exact ⟨rfl, ⟨congrArg AV.bool (by unfold partOk; rw [q3]; rfl), rfl, rfl, rfl, rfl, rfl, trivial⟩, rfl⟩
                   | true =>
                     cases q4 : (l[k] != sFalse) with
                     | false =>
                       repeat' first
                           | refine .seq ?_ | refine .rg ?_ | refine .rd ?_ | refine .block ?_ | refine .scope ?_ | refine .skip ?_ | refine .label ?_ | refine .exit ?_ | refine .ret ?_
                           | refine .ct ?_ | refine .cf ?_ | refine .cy ?_ | refine .cn ?_ | (refine .cond rfl ?_ ?_ <;> intro hc)
                           | refine A.nil_seq ?_ | refine .nl ?_ | refine .dd ?_ | refine .ys ?_ | refine .no ?_ | (refine A.guard rfl ?_ ?_ <;> intro hc)
                           | refine .lb ?_ | refine .ln ?_ | refine .ls ?_ | refine .pv ?_ | refine .ix ?_ | refine .pt ?_ | refine .pf ?_ | refine .bx ?_ | refine .al ?_ | refine .st ?_ | refine .ad ?_ | refine .sb ?_ | refine .mf ?_ | refine .cl ?_ | refine .cw ?_ | refine .ck ?_
                           | refine A.call rfl hNk (WeakL.refl _) ?_ | fail
                       exact ⟨rfl, ⟨congrArg AV.bool (by unfold partOk; rw [q3, q4]; rfl), rfl, rfl, rfl, rfl, rfl, trivial⟩, rfl⟩
                     | true =>
                       repeat' first
                           | refine .seq ?_ | refine .rg ?_ | refine .rd ?_ | refine .block ?_ | refine .scope ?_ | refine .skip ?_ | refine .label ?_ | refine .exit ?_ | refine .ret ?_
                           | refine .ct ?_ | refine .cf ?_ | refine .cy ?_ | refine .cn ?_ | (refine .cond rfl ?_ ?_ <;> intro hc)
                           | refine A.nil_seq ?_ | refine .nl ?_ | refine .dd ?_ | refine .ys ?_ | refine .no ?_ | (refine A.guard rfl ?_ ?_ <;> intro hc)
                           | refine .lb ?_ | refine .ln ?_ | refine .ls ?_ | refine .pv ?_ | refine .ix ?_ | refine .pt ?_ | refine .pf ?_ | refine .bx ?_ | refine .al ?_ | refine .st ?_ | refine .ad ?_ | refine .sb ?_ | refine .mf ?_ | refine .cl ?_ | refine .cw ?_ | refine .ck ?_
                           | refine A.call rfl hNk (WeakL.refl _) ?_ | fail
                       exact ⟨rfl, ⟨congrArg AV.bool (by unfold partOk; rw [q2, q3, q4]; simp; rfl), rfl, rfl, rfl, rfl, rfl, trivial⟩, rfl⟩
             )
          | refine .seq ?_ | refine .rg ?_ | refine .rd ?_ | refine .block ?_ | refine .scope ?_ | refine .skip ?_ | refine .label ?_ | refine .exit ?_ | refine .ret ?_
          | refine .ct ?_ | refine .cf ?_ | refine .cy ?_ | refine .cn ?_ | (refine .cond rfl ?_ ?_ <;> intro hc)
          | refine A.nil_seq ?_ | refine .nl ?_ | refine .dd ?_ | refine .ys ?_ | refine .no ?_ | (refine A.guard rfl ?_ ?_ <;> intro hc)
          | refine .lb ?_ | refine .ln ?_ | refine .ls ?_ | refine .pv ?_ | refine .ix ?_ | refine .pt ?_ | refine .pf ?_ | refine .bx ?_ | refine .al ?_ | refine .st ?_ | refine .ad ?_ | refine .sb ?_ | refine .mf ?_ | refine .cl ?_ | refine .cw ?_ | refine .ck ?_ | fail
      refine HCode.forK k (fun j => [(11, .int .i64 j), (7, .bool ((gK name (l.take k) && partOk l[k]) && decide (l[k] ∉ l.take j))), (10, .int .i64 k), (9, .bool bb), (1, .str name), (2, .slice (l.map AV.str) .no), (3, .ptr 0 0)]) (fun _ => ⟨[schOb s, dfnOb dd], []⟩) (fun _ => True) ⟨rfl, congrArg AV.bool (by simp), rfl, rfl, rfl, rfl, rfl, trivial⟩ rfl trivial fun j hj _ => ?_
      by_cases h2 : j < k
      · have d2 : decide ((j : Int) < (k : Int)) = true := decide_eq_true (by omega)
        have x2 := map_get' (f := AV.str) (show j < l.length by omega)
        have hnm := not_mem_take (x := l[k]) (show j < l.length by omega)
        cases hq : ((gK name (l.take k) && partOk l[k]) && decide (l[k] ∉ l.take j)) with
        | false =>
          repeat' first
            | refine .seq ?_ | refine .rg ?_ | refine .rd ?_ | refine .block ?_ | refine .scope ?_ | refine .skip ?_ | refine .label ?_ | refine .exit ?_ | refine .ret ?_
            | refine .ct ?_ | refine .cf ?_ | refine .cy ?_ | refine .cn ?_ | (refine .cond rfl ?_ ?_ <;> intro hc)
            | refine A.nil_seq ?_ | refine .nl ?_ | refine .dd ?_ | refine .ys ?_ | refine .no ?_ | (refine A.guard rfl ?_ ?_ <;> intro hc)
            | refine .lb ?_ | refine .ln ?_ | refine .ls ?_ | refine .pv ?_ | refine .ix ?_ | refine .pt ?_ | refine .pf ?_ | refine .bx ?_ | refine .al ?_ | refine .st ?_ | refine .ad ?_ | refine .sb ?_ | refine .mf ?_ | refine .cl ?_ | refine .cw ?_ | refine .ck ?_ | fail
          exact ⟨h2, ⟨rfl, congrArg AV.bool (by rw [hnm, ← Bool.and_assoc, hq]; rfl), rfl, rfl, rfl, rfl, rfl, trivial⟩, by simp [belowS, AV.low], growsSt_below _ _, rfl, trivial⟩
        | true =>
          repeat' first
            | refine .seq ?_ | refine .rg ?_ | refine .rd ?_ | refine .block ?_ | refine .scope ?_ | refine .skip ?_ | refine .label ?_ | refine .exit ?_ | refine .ret ?_
            | refine .ct ?_ | refine .cf ?_ | refine .cy ?_ | refine .cn ?_ | (refine .cond rfl ?_ ?_ <;> intro hc)
            | refine A.nil_seq ?_ | refine .nl ?_ | refine .dd ?_ | refine .ys ?_ | refine .no ?_ | (refine A.guard rfl ?_ ?_ <;> intro hc)
            | refine .lb ?_ | refine .ln ?_ | refine .ls ?_ | refine .pv ?_ | refine .ix ?_ | refine .pt ?_ | refine .pf ?_ | refine .bx ?_ | refine .al ?_ | refine .st ?_ | refine .ad ?_ | refine .sb ?_ | refine .mf ?_ | refine .cl ?_ | refine .cw ?_ | refine .ck ?_ | fail
          exact ⟨h2, ⟨rfl, congrArg AV.bool (by rw [hnm, ← Bool.and_assoc, hq]; rfl), rfl, rfl, rfl, rfl, rfl, trivial⟩, by simp [belowS, AV.low], growsSt_below _ _, rfl, trivial⟩
      · have d2 : decide ((j : Int) < (k : Int)) = false := decide_eq_false (by omega)
        obtain rfl : j = k := by omega
        have hgs : gK name (l.take (j + 1)) = ((gK name (l.take j) && partOk l[j]) && decide (l[j] ∉ l.take j)) := by rw [List.take_succ_eq_append_getElem h1, gK_snoc]
        repeat' first
          | refine .seq ?_ | refine .rg ?_ | refine .rd ?_ | refine .block ?_ | refine .scope ?_ | refine .skip ?_ | refine .label ?_ | refine .exit ?_ | refine .ret ?_
          | refine .ct ?_ | refine .cf ?_ | refine .cy ?_ | refine .cn ?_ | (refine .cond rfl ?_ ?_ <;> intro hc)
          | refine A.nil_seq ?_ | refine .nl ?_ | refine .dd ?_ | refine .ys ?_ | refine .no ?_ | (refine A.guard rfl ?_ ?_ <;> intro hc)
          | refine .lb ?_ | refine .ln ?_ | refine .ls ?_ | refine .pv ?_ | refine .ix ?_ | refine .pt ?_ | refine .pf ?_ | refine .bx ?_ | refine .al ?_ | refine .st ?_ | refine .ad ?_ | refine .sb ?_ | refine .mf ?_ | refine .cl ?_ | refine .cw ?_ | refine .ck ?_ | fail
        exact ⟨h1, ⟨rfl, congrArg AV.bool hgs.symm, rfl, rfl, rfl, rfl, trivial⟩, by simp [belowS, AV.low], growsSt_below _ _, rfl, trivial⟩
  · have d1 : decide ((k : Int) < (l.length : Int)) = false := by simp; omega
    obtain rfl : k = l.length := by omega
    rw [List.take_length]
    have hfin : ((checkI (grown s name l) == 0) == (gK name l && !bb)) = true := by
      rw [beq_iff_eq, Bool.eq_iff_iff, beq_iff_eq, hgr, Bool.and_eq_true, gK_ok, Bool.not_eq_true', hth]
    cases q1 : gK name l with
    | false =>
      rw [q1] at hfin
      repeat' first
        | refine .seq ?_ | refine .rg ?_ | refine .rd ?_ | refine .block ?_ | refine .scope ?_ | refine .skip ?_ | refine .label ?_ | refine .exit ?_ | refine .ret ?_
        | refine .ct ?_ | refine .cf ?_ | refine .cy ?_ | refine .cn ?_ | (refine .cond rfl ?_ ?_ <;> intro hc)
        | refine A.nil_seq ?_ | refine .nl ?_ | refine .dd ?_ | refine .ys ?_ | refine .no ?_ | (refine A.guard rfl ?_ ?_ <;> intro hc)
        | refine .lb ?_ | refine .ln ?_ | refine .ls ?_ | refine .pv ?_ | refine .ix ?_ | refine .pt ?_ | refine .pf ?_ | refine .bx ?_ | refine .al ?_ | refine .st ?_ | refine .ad ?_ | refine .sb ?_ | refine .mf ?_ | refine .cl ?_ | refine .cw ?_ | refine .ck ?_
        | refine A.append_new (n := 0) rfl rfl rfl rfl rfl rfl rfl rfl rfl rfl (Dfn.fitsAll _) (by rw [hll]; dsimp only; omega) (by omega) rfl ?_ | refine A.append (n := 0 + (s.defs.map Dfn.enc).length) rfl rfl rfl rfl rfl rfl rfl rfl (by rw [List.nil_append, Nat.zero_add]) rfl (by rw [hll]; dsimp only [List.length_cons, List.length_nil]; omega) (by dsimp only [List.length_cons, List.length_nil]; omega) rfl ?_ | refine A.call rfl hc2 hwk ?_ | fail
      exact Fin.ret1 rfl (Weak.refl _)
    | true =>
      rw [q1] at hfin
      repeat' first
        | refine .seq ?_ | refine .rg ?_ | refine .rd ?_ | refine .block ?_ | refine .scope ?_ | refine .skip ?_ | refine .label ?_ | refine .exit ?_ | refine .ret ?_
        | refine .ct ?_ | refine .cf ?_ | refine .cy ?_ | refine .cn ?_ | (refine .cond rfl ?_ ?_ <;> intro hc)
        | refine A.nil_seq ?_ | refine .nl ?_ | refine .dd ?_ | refine .ys ?_ | refine .no ?_ | (refine A.guard rfl ?_ ?_ <;> intro hc)
        | refine .lb ?_ | refine .ln ?_ | refine .ls ?_ | refine .pv ?_ | refine .ix ?_ | refine .pt ?_ | refine .pf ?_ | refine .bx ?_ | refine .al ?_ | refine .st ?_ | refine .ad ?_ | refine .sb ?_ | refine .mf ?_ | refine .cl ?_ | refine .cw ?_ | refine .ck ?_
        | refine A.append_new (n := 0) rfl rfl rfl rfl rfl rfl rfl rfl rfl rfl (Dfn.fitsAll _) (by rw [hll]; dsimp only; omega) (by omega) rfl ?_ | refine A.append (n := 0 + (s.defs.map Dfn.enc).length) rfl rfl rfl rfl rfl rfl rfl rfl (by rw [List.nil_append, Nat.zero_add]) rfl (by rw [hll]; dsimp only [List.length_cons, List.length_nil]; omega) (by dsimp only [List.length_cons, List.length_nil]; omega) rfl ?_ | refine A.call rfl hc2 hwk ?_ | fail
      exact Fin.ret1 rfl (Weak.refl _)
end Go.Proofs.YtegakkonlhmeaaaGreatDoor
