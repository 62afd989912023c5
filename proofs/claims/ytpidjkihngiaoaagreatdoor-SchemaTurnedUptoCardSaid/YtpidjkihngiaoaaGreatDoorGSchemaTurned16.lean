/-
  A sound schema with its definitions in another order is sound.
  The laws of layer 11: the page's example; SchemaTurned.
-/
import Derived.Test.YtpidjkihngiaoaaGreatDoorGSchemaTurned13
import Derived.Test.YtpidjkihngiaoaaGreatDoorGSchemaTurned15
import Derived.Test.YtpidjkihngiaoaaGreatDoorGSchemaTurned11
namespace Go.Proofs.YtpidjkihngiaoaaGreatDoor
open Go Go.Av
set_option maxRecDepth 100000
set_option linter.unusedVariables false
set_option linter.unusedSimpArgs false
set_option linter.unusedSectionVars false

theorem check_zero {s : Sch} : checkI s = 0 ↔ namedB s = true ∧ rootsB s = true ∧ soleB s = true ∧ typedB s = true ∧ facesB s = true ∧ keptB s = true ∧ partsB s = true ∧ openB s = true ∧ dfltsB s = true := by
  have f1 : ruleB s 1 = namedB s := rfl
  have f2 : ruleB s 2 = rootsB s := rfl
  have f3 : ruleB s 3 = soleB s := rfl
  have f4 : ruleB s 4 = typedB s := rfl
  have f5 : ruleB s 5 = facesB s := rfl
  have f6 : ruleB s 6 = keptB s := rfl
  have f7 : ruleB s 7 = partsB s := rfl
  have f8 : ruleB s 8 = openB s := rfl
  have f9 : ruleB s 9 = dfltsB s := rfl
  unfold checkI
  simp only [checkF, Int.reduceAdd, f1, f2, f3, f4, f5, f6, f7, f8, f9]
  cases namedB s <;> simp
  cases rootsB s <;> simp
  cases soleB s <;> simp
  cases typedB s <;> simp
  cases facesB s <;> simp
  cases keptB s <;> simp
  cases partsB s <;> simp
  cases openB s <;> simp

/-! What depends on names alone. -/
section
variable {s s' : Sch} (hf : ∀ n, findO s' n = findO s n)
include hf
theorem findR_cong (n : Str) : findR s' n = findR s n := by unfold findR; rw [hf]
theorem kindB_cong (n : Str) (ks : List Int) : kindB s' n ks = kindB s n ks := by unfold kindB; rw [findR_cong hf]
theorem bareB_cong (n : Str) (k m : Int) (str : Str) (inp inp' : List Par → Bool) (h : inp' = inp) : bareB s' n k m str inp' = bareB s n k m str inp := by unfold bareB; rw [hf, h]
mutual
theorem fitsV_cong : ∀ (v : Val) (t : Typ) (w : Bool), fitsV s' v t w = fitsV s v t w
  | .mk k n str l m, t, w => by
    rw [fitsV, fitsV, bareB_cong hf t.name k n str _ _ (funext fun ps => by rw [fitsM_cong m ps []]), fitsL_cong l (itemT t)]
theorem fitsL_cong : ∀ (l : List Val) (t : Typ), fitsL s' l t = fitsL s l t
  | [], t => by rw [fitsL, fitsL]
  | v :: l, t => by rw [fitsL, fitsL, fitsV_cong v t true, fitsL_cong l t]
theorem fitsM_cong : ∀ (m : List Mem) (ps : List Par) (seen : List Str), fitsM s' ps m seen = fitsM s ps m seen
  | [], ps, seen => by rw [fitsM, fitsM]
  | .mk nm v :: m, ps, seen => by
    rw [fitsM, fitsM, fitsM_cong m ps]
    cases parO ps nm with
    | none => rfl
    | some p => simp only; rw [fitsV_cong v p.t false]
end
theorem litR_cong (t : Typ) (v : Val) : litR s' t v = litR s t v := by unfold litR; rw [fitsV_cong hf]
theorem needP_cong (p : Par) : needP s' p = needP s p := by unfold needP; rw [kindB_cong hf]
theorem needsP_cong (n : Str) : needsP s' n = needsP s n := by
  unfold needsP
  rw [findR_cong hf]
  have : needAdd s' = needAdd s := by funext l p; unfold needAdd; rw [needP_cong hf]
  rw [this]
theorem rings_cong (n : Str) : ringsB s' n = ringsB s n := by
  rw [Bool.eq_iff_iff, rings_iff, rings_iff, show needsP s' = needsP s from funext (needsP_cong hf)]
end
theorem mem_possF {name x : Str} {ds : List Dfn} {l : List Str} : x ∈ ds.foldl (fun l x => possF l x name) l ↔ x ∈ l ∨ ∃ d ∈ ds, d.kind = 1 ∧ name ∈ d.faces ∧ d.name = x := by
  induction ds generalizing l with
  | nil => simp
  | cons d ds ih =>
    rw [List.foldl_cons, ih]
    unfold possF
    split
    · rename_i h
      rw [mem_addNew]
      constructor
      · rintro ((h1 | h1) | ⟨q, hq, h2⟩)
        · exact .inl h1
        · exact .inr ⟨d, List.mem_cons_self .., h.1, h.2, h1.symm⟩
        · exact .inr ⟨q, List.mem_cons_of_mem _ hq, h2⟩
      · rintro (h1 | ⟨q, hq, h2, h3, h4⟩)
        · exact .inl (.inl h1)
        · rcases List.mem_cons.1 hq with rfl | hq
          · exact .inl (.inr h4.symm)
          · exact .inr ⟨q, hq, h2, h3, h4⟩
    · rename_i h
      constructor
      · rintro (h1 | ⟨q, hq, h2⟩)
        · exact .inl h1
        · exact .inr ⟨q, List.mem_cons_of_mem _ hq, h2⟩
      · rintro (h1 | ⟨q, hq, h2, h3, h4⟩)
        · exact .inl h1
        · rcases List.mem_cons.1 hq with rfl | hq
          · exact absurd ⟨h2, h3⟩ h
          · exact .inr ⟨q, hq, h2, h3, h4⟩
theorem mem_possU {s : Sch} {x : Str} {ps l : List Str} : x ∈ ps.foldl (possU s) l ↔ x ∈ l ∨ (x ∈ ps ∧ kindB s x [1] = true) := by
  induction ps generalizing l with
  | nil => simp
  | cons p ps ih =>
    rw [List.foldl_cons, ih]
    unfold possU
    split
    · rename_i h
      rw [mem_addNew, List.mem_cons]
      constructor
      · rintro ((h1 | rfl) | h1)
        · exact .inl h1
        · exact .inr ⟨.inl rfl, h⟩
        · exact .inr ⟨.inr h1.1, h1.2⟩
      · rintro (h1 | ⟨rfl | h1, h2⟩)
        · exact .inl (.inl h1)
        · exact .inl (.inr rfl)
        · exact .inr ⟨h1, h2⟩
    · rename_i h
      rw [List.mem_cons]
      constructor
      · rintro (h1 | h1)
        · exact .inl h1
        · exact .inr ⟨.inr h1.1, h1.2⟩
      · rintro (h1 | ⟨rfl | h1, h2⟩)
        · exact .inl h1
        · exact absurd h2 h
        · exact .inr ⟨h1, h2⟩
/-- Which objects a name may be: as a set. -/
theorem mem_poss {s : Sch} {name x : Str} : x ∈ possB s name ↔ ∃ d, findO s name = some d ∧ ((d.kind = 1 ∧ x = name) ∨ (d.kind = 2 ∧ ∃ e ∈ s.defs, e.kind = 1 ∧ name ∈ e.faces ∧ e.name = x) ∨ (d.kind = 3 ∧ x ∈ d.parts ∧ kindB s x [1] = true)) := by
  unfold possB
  cases h : findO s name with
  | none => simp
  | some d =>
    simp only [Option.some.injEq, exists_eq_left']
    by_cases k1 : d.kind = 1
    · simp [k1]
    · by_cases k2 : d.kind = 2
      · rw [if_neg k1, if_pos k2, mem_possF]; simp [k2]
      · by_cases k3 : d.kind = 3
        · rw [if_neg k1, if_neg k2, if_pos k3, mem_possU]; simp [k3]
        · rw [if_neg k1, if_neg k2, if_neg k3]; simp [k1, k2, k3]
theorem poss_cong {s s' : Sch} (hf : ∀ n, findO s' n = findO s n) (hm : ∀ d, d ∈ s'.defs ↔ d ∈ s.defs) (name x : Str) : x ∈ possB s' name ↔ x ∈ possB s name := by
  rw [mem_poss, mem_poss, hf]
  simp only [hm, kindB_cong hf]
theorem subB_cong {s s' : Sch} (hf : ∀ n, findO s' n = findO s n) (hm : ∀ d, d ∈ s'.defs ↔ d ∈ s.defs) (a b : Typ) : subB s' a b = subB s a b := by
  unfold subB
  rw [findR_cong hf, kindB_cong hf]
  have : decide (a.name ∈ possB s' b.name) = decide (a.name ∈ possB s b.name) := by rw [Bool.eq_iff_iff, decide_eq_true_eq, decide_eq_true_eq]; exact poss_cong hf hm _ _
  rw [this]
theorem every_cong {s s' : Sch} (hm : ∀ d, d ∈ s'.defs ↔ d ∈ s.defs) {f f' : Dfn → Bool} (h : ∀ d ∈ s.defs, f' d = f d) : everyB s' f' = everyB s f := by
  unfold everyB
  congr 1
  rw [Bool.eq_iff_iff, List.any_eq_true, List.any_eq_true]
  exact ⟨fun ⟨d, hd, e⟩ => ⟨d, (hm d).1 hd, by rw [← h d ((hm d).1 hd)]; exact e⟩, fun ⟨d, hd, e⟩ => ⟨d, (hm d).2 hd, by rw [h d hd]; exact e⟩⟩
theorem perm_find {l l' : List Dfn} (hp : l'.Perm l) (hn : (l.map Dfn.name).Nodup) (n : Str) : l'.find? (fun d => d.name == n) = l.find? (fun d => d.name == n) := by
  have hn' : (l'.map Dfn.name).Nodup := (hp.map Dfn.name).nodup_iff.2 hn
  cases h : l.find? (fun d => d.name == n) with
  | none =>
    rw [List.find?_eq_none] at h ⊢
    exact fun d hd => h d (hp.mem_iff.1 hd)
  | some d =>
    have h1 := List.mem_of_find?_eq_some h
    have h2 : d.name = n := by simpa using List.find?_some h
    subst h2
    exact nodup_find hn' (hp.mem_iff.2 h1)
theorem all_mem {α : Type} {l l' : List α} (hm : ∀ d, d ∈ l' ↔ d ∈ l) (p : α → Bool) : l'.all p = l.all p := by
  rw [Bool.eq_iff_iff, List.all_eq_true, List.all_eq_true]
  exact ⟨fun h d hd => h d ((hm d).2 hd), fun h d hd => h d ((hm d).1 hd)⟩
theorem any_mem {α : Type} {l l' : List α} (hm : ∀ d, d ∈ l' ↔ d ∈ l) (p : α → Bool) : l'.any p = l.any p := by
  rw [Bool.eq_iff_iff, List.any_eq_true, List.any_eq_true]
  exact ⟨fun ⟨d, hd, h⟩ => ⟨d, (hm d).1 hd, h⟩, fun ⟨d, hd, h⟩ => ⟨d, (hm d).2 hd, h⟩⟩
theorem turned {s : Sch} {defs' : List Dfn} (hp : defs'.Perm s.defs) (h : checkI s = 0) : checkI ⟨defs', s.query, s.mutation⟩ = 0 := by
  obtain ⟨h1, h2, h3, h4, h5, h6, h7, h8, h9⟩ := check_zero.1 h
  obtain ⟨g1, g2, g3, g4⟩ := named_iff.1 h1
  have hm : ∀ d, d ∈ (⟨defs', s.query, s.mutation⟩ : Sch).defs ↔ d ∈ s.defs := fun d => hp.mem_iff
  have hf : ∀ n, findO ⟨defs', s.query, s.mutation⟩ n = findO s n := fun n => by
    unfold findO
    split
    · rfl
    · exact perm_find hp g2 n
  have hnm : ∀ n, n ∈ dNames ⟨defs', s.query, s.mutation⟩ ↔ n ∈ dNames s := fun n => (hp.map Dfn.name).mem_iff
  have hk := kindB_cong hf
  have hent : ∀ l, entriesB ⟨defs', s.query, s.mutation⟩ l = entriesB s l := fun l => by unfold entriesB entryB; simp only [hk]
  have hrt : ∀ l, rightB ⟨defs', s.query, s.mutation⟩ l = rightB s l := fun l => by unfold rightB; simp only [litR_cong hf]
  refine check_zero.2 ⟨?_, ?_, ?_, ?_, ?_, ?_, ?_, ?_, ?_⟩
  · refine named_iff.2 ⟨?_, (hp.map Dfn.name).nodup_iff.2 g2, fun n hn => g3 n ((hnm n).1 hn), fun n hn => by rw [hk]; exact g4 n ((hnm n).1 hn)⟩
    have : sdlOk ⟨defs', s.query, s.mutation⟩ = sdlOk s := by unfold sdlOk; rw [all_mem hm]
    rw [this]; exact g1
  · have : rootsB ⟨defs', s.query, s.mutation⟩ = rootsB s := by unfold rootsB; rw [hk, hk]
    rw [this]; exact h2
  · rw [show soleB ⟨defs', s.query, s.mutation⟩ = soleB s from every_cong hm (fun _ _ => rfl)]; exact h3
  · rw [show typedB ⟨defs', s.query, s.mutation⟩ = typedB s from every_cong hm (fun d _ => by unfold typed1 leafB compB; simp only [hk, hent])]; exact h4
  · rw [show facesB ⟨defs', s.query, s.mutation⟩ = facesB s from every_cong hm (fun d _ => by
      unfold faces1
      congr 2
      funext n
      unfold face2
      rw [findR_cong hf])]; exact h5
  · rw [show keptB ⟨defs', s.query, s.mutation⟩ = keptB s from every_cong hm (fun d _ => by
      unfold kept1
      congr 2
      funext n
      unfold hasB
      rw [findR_cong hf]
      congr 2
      funext g
      cases fldO d.fields g.name with
      | none => rfl
      | some f => simp only [subB_cong hf hm])]; exact h6
  · rw [show partsB ⟨defs', s.query, s.mutation⟩ = partsB s from every_cong hm (fun d _ => by unfold parts1; simp only [hk])]; exact h7
  · rw [show openB ⟨defs', s.query, s.mutation⟩ = openB s from every_cong hm (fun d _ => by unfold open1; rw [rings_cong hf])]; exact h8
  · rw [show dfltsB ⟨defs', s.query, s.mutation⟩ = dfltsB s from every_cong hm (fun d _ => by unfold dflts1 leafB; simp only [hk, hrt])]; exact h9
theorem rotate_perm {α : Type} (l : List α) (k : Nat) : (l.drop k ++ l.take k).Perm l := by
  have h := List.perm_append_comm (l₁ := l.drop k) (l₂ := l.take k)
  rwa [List.take_append_drop] at h
end Go.Proofs.YtpidjkihngiaoaaGreatDoor
set_option linter.unusedVariables false
set_option linter.unusedSimpArgs false
namespace Go.Proofs.YtpidjkihngiaoaaGreatDoor
open Go Go.Av
set_option maxRecDepth 100000
set_option maxHeartbeats 16000000
attribute [local irreducible] HCode AOps PFn AFn Av.Step TStep

def schA : Sch := ⟨[⟨1, [81, 117, 101, 114, 121], [], [⟨[97], [], ⟨[73, 110, 116], 0, 0⟩, []⟩], [], []⟩], [81, 117, 101, 114, 121], []⟩
def schB : Sch := ⟨[], [81, 117, 101, 114, 121], []⟩
theorem schA_ok : schA.ok := fun d hd => by
  simp only [schA, List.mem_cons, List.not_mem_nil, or_false] at hd
  subst hd
  refine ⟨fun f hf => ?_, fun p hp => by simp at hp⟩
  simp only [List.mem_cons, List.not_mem_nil, or_false] at hf
  subst hf
  exact ⟨fun p hp => by simp at hp, fun p hp => by simp at hp⟩
theorem schB_ok : schB.ok := fun d hd => by simp [schB] at hd
theorem schA_check : checkI schA = 0 := by decide +kernel
theorem schB_check : checkI schB = 2 := by decide +kernel
theorem schA_9 : ruleB schA 9 = true := by decide +kernel
theorem schA_10 : ruleB schA 10 = false := by decide +kernel
theorem weak_schA {t1 t2 t3 t4 t5 t6 t7 : Tk} : WeakL [.agg [.slice [.agg [.int .i64 1, .str [81, 117, 101, 114, 121], .slice [] t1, .slice [.agg [.str [97], .slice [] t2, .str [73, 110, 116], .int .i64 0, .int .i64 0, .slice [] t3]] t4, .slice [] t5, .slice [] t6]] t7, .str [81, 117, 101, 114, 121], .str []]] [schA.enc] := by
  refine WeakL.cons (Weak.agg (WeakL.cons (Weak.no (WeakL.cons ?_ (WeakL.refl _))) (WeakL.refl _))) (WeakL.refl _)
  refine Weak.agg (WeakL.cons (Weak.refl _) (WeakL.cons (Weak.refl _) (WeakL.cons (Weak.no (WeakL.refl _)) (WeakL.cons (Weak.no (WeakL.cons ?_ (WeakL.refl _))) (WeakL.cons (Weak.no (WeakL.refl _)) (WeakL.cons (Weak.no (WeakL.refl _)) (WeakL.refl _)))))))
  exact Weak.agg (WeakL.cons (Weak.refl _) (WeakL.cons (Weak.no (WeakL.refl _)) (WeakL.cons (Weak.refl _) (WeakL.cons (Weak.refl _) (WeakL.cons (Weak.refl _) (WeakL.cons (Weak.no (WeakL.refl _)) (WeakL.refl _)))))))
theorem weak_schA9 {n : Int} {t1 t2 t3 t4 t5 t6 t7 : Tk} : WeakL [.agg [.slice [.agg [.int .i64 1, .str [81, 117, 101, 114, 121], .slice [] t1, .slice [.agg [.str [97], .slice [] t2, .str [73, 110, 116], .int .i64 0, .int .i64 0, .slice [] t3]] t4, .slice [] t5, .slice [] t6]] t7, .str [81, 117, 101, 114, 121], .str []], .int .i64 n] [schA.enc, .int .i64 n] := by
  refine WeakL.cons ?_ (WeakL.refl _)
  exact (fun g w v h => by
    obtain ⟨u, r, e, h1, h2⟩ := weak_schA (t1 := t1) (t2 := t2) (t3 := t3) (t4 := t4) (t5 := t5) (t6 := t6) (t7 := t7) g w [v] ⟨v, [], rfl, h, rfl⟩
    cases e
    exact h1)
theorem weak_schB {t : Tk} : WeakL [.agg [.slice [] t, .str [81, 117, 101, 114, 121], .str []]] [schB.enc] := WeakL.cons (Weak.agg (WeakL.cons (Weak.no (WeakL.refl _)) (WeakL.refl _))) (WeakL.refl _)
theorem awake11 : PFn Tryz.prog 28 [] (.bool true) := by
  have h1 := wCheckS schA (by decide) schA_ok
  rw [schA_check] at h1
  have h2 := wCheckS schB (by decide) schB_ok
  rw [schB_check] at h2
  have h3 := wRule schA 9 (by decide) (wNamed schA (by decide) schA_ok)
  rw [schA_9] at h3
  have h4 := wRule schA 10 (by decide) (wNamed schA (by decide) schA_ok)
  rw [schA_10] at h4
  refine AFn.plain rfl rfl (AFn.enter [0] Tryz.func28 rfl rfl rfl rfl rfl (by decide) ?_)
  repeat' first
    | refine A.call rfl h1 weak_schA ?_ | refine A.call rfl h2 weak_schB ?_ | refine A.call rfl h3 weak_schA9 ?_ | refine A.call rfl h4 weak_schA9 ?_
    | refine .seq ?_ | refine .rg ?_ | refine .rd ?_ | refine .block ?_ | refine .scope ?_ | refine .skip ?_ | refine .label ?_ | refine .exit ?_ | refine .ret ?_
    | refine .ct ?_ | refine .cf ?_ | refine .cy ?_ | refine .cn ?_ | (refine .cond rfl ?_ ?_ <;> intro hc)
    | refine A.nil_seq ?_ | refine .nl ?_ | refine .dd ?_ | refine .ys ?_ | refine .no ?_ | (refine A.guard rfl ?_ ?_ <;> intro hc)
    | refine .lb ?_ | refine .ln ?_ | refine .ls ?_ | refine .pv ?_ | refine .ix ?_ | refine .pt ?_ | refine .pf ?_ | refine .bx ?_ | refine .al ?_ | refine .st ?_ | refine .ad ?_ | refine .sb ?_ | refine .mf ?_ | refine .cl ?_ | refine .cw ?_ | refine .ck ?_ | fail
  exact Fin.ret1 rfl (Weak.refl _)

theorem wrap_u64 (n : Int) : ∃ u : Nat, IntKind.u64.wrap n = (u : Int) ∧ u < 18446744073709551616 := by
  refine ⟨(n % 18446744073709551616).toNat, ?_, by omega⟩
  have h : IntKind.u64.wrap n = n % 18446744073709551616 := by
    simp [IntKind.wrap, IntKind.signed, IntKind.bits]
  rw [h]; omega
theorem wrap_u64_nat {n : Nat} (h : n < 18446744073709551616) : IntKind.u64.wrap (n : Int) = (n : Int) := by
  have h : IntKind.u64.wrap (n : Int) = (n : Int) % 18446744073709551616 := by
    simp [IntKind.wrap, IntKind.signed, IntKind.bits]
  rw [h]; omega
theorem sum_app {α : Type} (f : α → Nat) : ∀ a b : List α, sumSize f (a ++ b) = sumSize f a + sumSize f b
  | [], b => by simp [sumSize]
  | x :: a, b => by rw [List.cons_append, sumSize, sumSize, sum_app f a b]; omega
theorem schemaTurned (s : Sch) (n : Int) (hs : s.size ≤ 1048576) (ho : s.ok) : PFn Tryz.prog 6 [s.enc, .int .i64 n] (.bool true) := by
  have hL := light8 s (by omega)
  have hw := awake11
  have hc := wCheckS s hs ho
  have hss : s.size = sumSize Dfn.size s.defs + s.query.length + s.mutation.length + 4 := rfl
  have hlen := sumSize_length (size := Dfn.size) (fun d => by unfold Dfn.size; omega) s.defs
  have hll : (s.defs.map Dfn.enc).length = s.defs.length := List.length_map ..
  refine AFn.plain rfl (by simp [AV.closedL, AV.closed, Sch.closed]) (AFn.enter [4] Tryz.func6 rfl rfl rfl rfl rfl (by decide) ?_)
  cases c1 : lightS s <;> rw [c1] at hL
  · repeat' first
      | refine .seq ?_ | refine .rg ?_ | refine .rd ?_ | refine .block ?_ | refine .scope ?_ | refine .skip ?_ | refine .label ?_ | refine .exit ?_ | refine .ret ?_
      | refine .ct ?_ | refine .cf ?_ | refine .cy ?_ | refine .cn ?_ | (refine .cond rfl ?_ ?_ <;> intro hc)
      | refine A.nil_seq ?_ | refine .nl ?_ | refine .dd ?_ | refine .ys ?_ | refine .no ?_ | (refine A.guard rfl ?_ ?_ <;> intro hc)
      | refine .lb ?_ | refine .ln ?_ | refine .ls ?_ | refine .pv ?_ | refine .ix ?_ | refine .pt ?_ | refine .pf ?_ | refine .bx ?_ | refine .al ?_ | refine .st ?_ | refine .ad ?_ | refine .sb ?_ | refine .mf ?_ | refine .cl ?_ | refine .cw ?_ | refine .ck ?_ | fail
    exact Fin.ret1 rfl (Weak.refl _)
  by_cases c2 : s.defs = []
  · have e2 : ((s.defs.length : Int) == 0) = true := by rw [c2]; rfl
    repeat' first
      | refine .seq ?_ | refine .rg ?_ | refine .rd ?_ | refine .block ?_ | refine .scope ?_ | refine .skip ?_ | refine .label ?_ | refine .exit ?_ | refine .ret ?_
      | refine .ct ?_ | refine .cf ?_ | refine .cy ?_ | refine .cn ?_ | (refine .cond rfl ?_ ?_ <;> intro hc)
      | refine A.nil_seq ?_ | refine .nl ?_ | refine .dd ?_ | refine .ys ?_ | refine .no ?_ | (refine A.guard rfl ?_ ?_ <;> intro hc)
      | refine .lb ?_ | refine .ln ?_ | refine .ls ?_ | refine .pv ?_ | refine .ix ?_ | refine .pt ?_ | refine .pf ?_ | refine .bx ?_ | refine .al ?_ | refine .st ?_ | refine .ad ?_ | refine .sb ?_ | refine .mf ?_ | refine .cl ?_ | refine .cw ?_ | refine .ck ?_ | fail
    exact Fin.ret1 rfl (Weak.refl _)
  have hpos : 0 < s.defs.length := List.length_pos_iff.2 c2
  have e2 : ((s.defs.length : Int) == 0) = false := by rw [beq_eq_false_iff_ne]; omega
  by_cases c3 : checkI s = 0
  · have e3 : (checkI s != 0) = false := by simp [c3]
    obtain ⟨u, hu, hu2⟩ := wrap_u64 n
    have hv := wrap_u64_nat (n := s.defs.length) (by omega)
    have hr : (u : Int).tmod (s.defs.length : Int) = ((u % s.defs.length : Nat) : Int) := by
      rw [Int.tmod_eq_emod_of_nonneg (by omega)]; rfl
    have hlt : u % s.defs.length < s.defs.length := Nat.mod_lt _ hpos
    generalize u % s.defs.length = k at hr hlt
    have hwk : IntKind.i64.wrap (k : Int) = (k : Int) := wrap_nat (by omega)
    have hk0 : k ≤ s.defs.length := by omega
    have hp := rotate_perm s.defs k
    have hz : sumSize Dfn.size (s.defs.drop k ++ s.defs.take k) = sumSize Dfn.size s.defs := by
      rw [sum_app, Nat.add_comm, ← sum_app, List.take_append_drop]
    have hc2 := wCheckS ⟨s.defs.drop k ++ s.defs.take k, s.query, s.mutation⟩ (by show sumSize Dfn.size _ + s.query.length + s.mutation.length + 4 ≤ _; rw [hz]; exact hs) (fun d hd => ho d (hp.mem_iff.1 hd))
    rw [turned hp c3] at hc2
    have hwk2 : WeakL [.agg [.slice (([] ++ ((s.defs.map Dfn.enc).take (s.defs.map Dfn.enc).length).drop k) ++ ((s.defs.map Dfn.enc).take k).drop 0) (.own 0 6), .str s.query, .str s.mutation]] [(Sch.mk (s.defs.drop k ++ s.defs.take k) s.query s.mutation).enc] := by
      refine WeakL.cons (Weak.agg (WeakL.cons (Weak.no (WeakL.eq ?_)) (WeakL.refl _))) (WeakL.refl _)
      rw [List.take_length, List.nil_append, List.drop_zero, List.map_append, List.map_drop, List.map_take]
    rw [c3] at hc
    have hf1 : fitsAll true 6 (((s.defs.map Dfn.enc).take (s.defs.map Dfn.enc).length).drop k) = true := by rw [← List.map_take, ← List.map_drop]; exact Dfn.fitsAll _
    have hf2 : fitsAll true 6 (((s.defs.map Dfn.enc).take k).drop 0) = true := by rw [← List.map_take, ← List.map_drop]; exact Dfn.fitsAll _
    have hl1 : (((s.defs.map Dfn.enc).take (s.defs.map Dfn.enc).length).drop k).length = s.defs.length - k := by simp
    have hl2 : (((s.defs.map Dfn.enc).take k).drop 0).length = k := by simp; omega
    repeat' first
      | refine .seq ?_ | refine .rg ?_ | refine .rd ?_ | refine .block ?_ | refine .scope ?_ | refine .skip ?_ | refine .label ?_ | refine .exit ?_ | refine .ret ?_
      | refine .ct ?_ | refine .cf ?_ | refine .cy ?_ | refine .cn ?_ | (refine .cond rfl ?_ ?_ <;> intro hc)
      | refine A.nil_seq ?_ | refine .nl ?_ | refine .dd ?_ | refine .ys ?_ | refine .no ?_ | (refine A.guard rfl ?_ ?_ <;> intro hc)
      | refine .lb ?_ | refine .ln ?_ | refine .ls ?_ | refine .pv ?_ | refine .ix ?_ | refine .pt ?_ | refine .pf ?_ | refine .bx ?_ | refine .al ?_ | refine .st ?_ | refine .ad ?_ | refine .sb ?_ | refine .mf ?_ | refine .cl ?_ | refine .cw ?_ | refine .ck ?_
      | refine A.conv rfl rfl rfl rfl hu ?_ | refine A.conv rfl rfl rfl rfl hv ?_ | refine A.conv rfl rfl rfl rfl hwk ?_ | refine A.rem rfl rfl (by omega) hr ?_ | refine A.slice k (s.defs.map Dfn.enc).length rfl rfl rfl rfl rfl rfl rfl rfl (by omega) (Nat.le_refl _) (.inr (Dfn.fitsAll _)) ?_ | refine A.slice 0 k rfl rfl rfl rfl rfl rfl rfl rfl (Nat.zero_le _) (by omega) (.inl rfl) ?_ | refine A.append_new (n := 0) rfl rfl rfl rfl rfl rfl rfl rfl rfl rfl hf1 (by rw [hl1]; dsimp only; omega) (by omega) rfl ?_ | refine A.append (n := 0 + (((s.defs.map Dfn.enc).take (s.defs.map Dfn.enc).length).drop k).length) rfl rfl rfl rfl rfl rfl rfl rfl (by rw [List.nil_append, Nat.zero_add]) hf2 (by rw [hl1, hl2]; dsimp only; omega) (by omega) rfl ?_ | refine A.call rfl hc2 hwk2 ?_ | fail
    exact Fin.ret1 rfl (Weak.refl _)
  · have e3 : (checkI s != 0) = true := by simp [c3]
    repeat' first
      | refine .seq ?_ | refine .rg ?_ | refine .rd ?_ | refine .block ?_ | refine .scope ?_ | refine .skip ?_ | refine .label ?_ | refine .exit ?_ | refine .ret ?_
      | refine .ct ?_ | refine .cf ?_ | refine .cy ?_ | refine .cn ?_ | (refine .cond rfl ?_ ?_ <;> intro hc)
      | refine A.nil_seq ?_ | refine .nl ?_ | refine .dd ?_ | refine .ys ?_ | refine .no ?_ | (refine A.guard rfl ?_ ?_ <;> intro hc)
      | refine .lb ?_ | refine .ln ?_ | refine .ls ?_ | refine .pv ?_ | refine .ix ?_ | refine .pt ?_ | refine .pf ?_ | refine .bx ?_ | refine .al ?_ | refine .st ?_ | refine .ad ?_ | refine .sb ?_ | refine .mf ?_ | refine .cl ?_ | refine .cw ?_ | refine .ck ?_ | fail
    exact Fin.ret1 rfl (Weak.refl _)
end Go.Proofs.YtpidjkihngiaoaaGreatDoor
