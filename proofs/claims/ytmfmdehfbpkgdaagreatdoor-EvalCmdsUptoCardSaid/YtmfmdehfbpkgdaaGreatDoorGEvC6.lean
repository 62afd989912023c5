/-
  Contracts and plain facts for a law, joined.
-/
import Derived.Test.YtmfmdehfbpkgdaaGreatDoorGEvC2
import Derived.Test.YtmfmdehfbpkgdaaGreatDoorGEvC3
import Derived.Test.YtmfmdehfbpkgdaaGreatDoorGEvC1
import Derived.Test.YtmfmdehfbpkgdaaGreatDoorGEvC5
import Derived.Test.YtmfmdehfbpkgdaaGreatDoorAvMap
set_option maxRecDepth 100000
set_option maxHeartbeats 16000000
set_option linter.unusedVariables false
set_option linter.unusedSimpArgs false
set_option linter.unusedSectionVars false
namespace Go.Proofs.YtmfmdehfbpkgdaaGreatDoor
open Go Go.Av
attribute [local irreducible] HCode AOps PFn AFn Av.Step TStep
def tiFn : TI := ⟨.func, 1, 8, false, .nilfn, [], 0⟩
theorem tokF1 : TOk Tryz.prog 215 tiFn := tok_mk .nilFunc (by kernel_rfl) Tryz.underlying215 rfl rfl rfl rfl rfl (by kernel_rfl) rfl (by kernel_rfl)
theorem tokF2 : TOk Tryz.prog 178 tiFn := tok_mk .nilFunc (by kernel_rfl) Tryz.underlying178 rfl rfl rfl rfl rfl (by kernel_rfl) rfl (by kernel_rfl)
def table2 : List (Nat × TI) := (215, tiFn) :: (178, tiFn) :: table
instance layF : Lay Tryz.prog := ⟨table2, ⟨tokF1, tokF2, table_ok⟩, Tryz.checked.mixed⟩
theorem once_take {l : List Str} {k : Nat} (h : k < l.length) : (l.take (k + 1)).Nodup ↔ (l.take k).Nodup ∧ l[k] ∉ l.take k := by
  rw [List.take_succ_eq_append_getElem h, List.nodup_append]
  constructor
  · rintro ⟨h1, _, h3⟩
    exact ⟨h1, fun hm => h3 _ hm _ (List.mem_singleton.2 rfl) rfl⟩
  · rintro ⟨h1, h2⟩
    refine ⟨h1, by simp, fun a ha b hb => ?_⟩
    rw [List.mem_singleton.1 hb]
    rintro rfl
    exact h2 ha
mutual
def szV : Val → Nat
  | .mk _ _ s l m => 1 + s.length + szL l + szM m
def szL : List Val → Nat
  | [] => 0
  | v :: l => szV v + szL l
def szM : List Mem → Nat
  | [] => 0
  | .mk n v :: m => n.length + szV v + szM m
end
mutual
theorem szV_le : ∀ v : Val, szV v ≤ v.size
  | .mk _ _ s l m => by
    have h1 := szL_le l
    have h2 := szM_le m
    rw [szV, Val.size]; omega
theorem szL_le : ∀ l : List Val, szL l ≤ Val.sizeL l
  | [] => by rw [szL]; omega
  | v :: l => by
    have h1 := szV_le v
    have h2 := szL_le l
    rw [szL, Val.sizeL]; omega
theorem szM_le : ∀ m : List Mem, szM m ≤ Val.sizeM m
  | [] => by rw [szM]; omega
  | .mk n v :: m => by
    have h1 := szV_le v
    have h2 := szM_le m
    rw [szM, Val.sizeM]; omega
end
theorem szV_eq (v : Val) : szV v = 1 + v.s.length + szL v.l + szM v.m := by cases v; rw [szV]; rfl
theorem szL_take {l : List Val} {k : Nat} (h : k < l.length) : szL (l.take (k + 1)) = szL (l.take k) + szV l[k] := by
  induction l generalizing k with
  | nil => simp at h
  | cons x l ih =>
    cases k with
    | zero => simp [szL]
    | succ k => simp only [List.take_succ_cons, szL, List.getElem_cons_succ]; rw [ih (by simpa using h)]; omega
theorem szM_take {l : List Mem} {k : Nat} (h : k < l.length) : szM (l.take (k + 1)) = szM (l.take k) + l[k].name.length + szV l[k].v := by
  induction l generalizing k with
  | nil => simp at h
  | cons x l ih =>
    cases k with
    | zero => cases x; simp [szM, Mem.name, Mem.v]
    | succ k => cases x; simp only [List.take_succ_cons, szM, List.getElem_cons_succ]; rw [ih (by simpa using h)]; omega
theorem szL_mono (l : List Val) (k : Nat) : szL (l.take k) ≤ szL l := by
  induction l generalizing k with
  | nil => simp
  | cons x l ih =>
    cases k with
    | zero => simp [szL]
    | succ k => simp only [List.take_succ_cons, szL]; have := ih k; omega
theorem szM_mono (l : List Mem) (k : Nat) : szM (l.take k) ≤ szM l := by
  induction l generalizing k with
  | nil => simp
  | cons x l ih =>
    cases k with
    | zero => simp [szM]
    | succ k => cases x; simp only [List.take_succ_cons, szM]; have := ih k; omega
theorem kSize : ∀ N : Nat, N ≤ 137438953472 → ∀ v : Val, v.size ≤ N → PFn Tryz.prog 5 [v.enc] (.int .i64 (szV v))
  | 0, _, v, hv => absurd hv (by have := v.size_pos; omega)
  | N + 1, hN, v, hv => by
    have ih := kSize N (by omega)
    have hle := szV_le v
    have heq := szV_eq v
    have hll := v.l_len
    have hml := v.m_len
    refine AFn.plain rfl (by simp [AV.closedL, Val.closed]) (AFn.en [2] Tryz.func5 ?_)
    refine .gob ?_
    refine HCode.forK v.l.length (fun k => [(4, .int .i64 k), (3, .int .i64 ((1 : Int) + v.s.length + szL (v.l.take k))), (1, .rptr v.enc)]) (fun _ => ⟨[], []⟩) (fun _ => True) ⟨rfl, congrArg (AV.int .i64) (by simp [szL]), rfl, trivial⟩ rfl trivial fun k hk _ => ?_
    by_cases h1 : k < v.l.length
    · have d1 : decide ((k : Int) < (v.lv.length : Int)) = true := by rw [v.lv_len]; simp [h1]
      have x1 := Val.lv_get h1
      have hc := ih v.l[k] (by have := Val.size_l h1; omega)
      have ht := szL_take h1
      have hm := szL_mono v.l (k + 1)
      refine .go ?_
      exact ⟨h1, ⟨rfl, congrArg (AV.int .i64) (by rw [ht]; omega), rfl, trivial⟩, by simp [belowS, AV.low], rfl, rfl, trivial⟩
    · have d1 : decide ((k : Int) < (v.lv.length : Int)) = false := by rw [v.lv_len]; simp; omega
      obtain rfl : k = v.l.length := by omega
      refine .go ?_
      refine HCode.forK v.m.length (fun k => [(5, .int .i64 k), (3, .int .i64 ((1 : Int) + v.s.length + szL v.l + szM (v.m.take k))), (1, .rptr v.enc)]) (fun _ => ⟨[], []⟩) (fun _ => True) ⟨rfl, congrArg (AV.int .i64) (by simp [szM]), rfl, trivial⟩ rfl trivial fun j hj _ => ?_
      by_cases h2 : j < v.m.length
      · have d2 : decide ((j : Int) < (v.mv.length : Int)) = true := by rw [v.mv_len]; simp [h2]
        have x2 := Val.mv_get h2
        have hc := ih v.m[j].v (by have := Val.size_m h2; omega)
        have ht := szM_take h2
        have hm := szM_mono v.m (j + 1)
        refine .go ?_
        exact ⟨h2, ⟨rfl, congrArg (AV.int .i64) (by rw [ht]; omega), rfl, trivial⟩, by simp [belowS, AV.low], rfl, rfl, trivial⟩
      · have d2 : decide ((j : Int) < (v.mv.length : Int)) = false := by rw [v.mv_len]; simp; omega
        obtain rfl : j = v.m.length := by omega
        refine .go ?_
        refine Fin.ret1 rfl (Weak.eq (congrArg (AV.int .i64) ?_))
        rw [List.take_length, heq]; omega
theorem kSize' (v : Val) (h : v.size ≤ 137438953472) : PFn Tryz.prog 5 [v.enc] (.int .i64 (szV v)) := kSize _ h v (Nat.le_refl _)
def ltStrs (l : List Str) : Nat := sumSize (fun s : Str => 1 + s.length) l
def ltPars (l : List Par) : Nat := sumSize (fun p : Par => 1 + p.name.length + szV p.d) l
def ltDirs (l : List Dirc) : Nat := sumSize (fun d : Dirc => 1 + d.name.length + (1 + szM d.args)) l
def ltFlds (l : List Fld) : Nat := sumSize (fun f : Fld => 1 + f.name.length + ltPars f.params + ltDirs f.dirs) l
def ltDfn (d : Dfn) : Nat := 1 + d.name.length + ltStrs d.faces + ltStrs d.parts + ltPars d.params + ltFlds d.fields
def ltSch (s : Sch) : Nat := sumSize ltDfn s.defs
theorem sum_take {α : Type} {f : α → Nat} {l : List α} {k : Nat} (h : k < l.length) : sumSize f (l.take (k + 1)) = sumSize f (l.take k) + f l[k] := by
  induction l generalizing k with
  | nil => simp at h
  | cons x l ih =>
    cases k with
    | zero => simp [sumSize]
    | succ k => simp only [List.take_succ_cons, sumSize, List.getElem_cons_succ]; rw [ih (by simpa using h)]; omega
theorem sum_mono {α : Type} (f : α → Nat) (l : List α) (k : Nat) : sumSize f (l.take k) ≤ sumSize f l := by
  induction l generalizing k with
  | nil => simp
  | cons x l ih =>
    cases k with
    | zero => simp [sumSize]
    | succ k => simp only [List.take_succ_cons, sumSize]; have := ih k; omega
theorem sum_le {α : Type} {f g : α → Nat} (h : ∀ x, f x ≤ g x) : ∀ l : List α, sumSize f l ≤ sumSize g l
  | [] => Nat.le_refl _
  | x :: l => by simp only [sumSize]; have := h x; have := sum_le h l; omega
theorem szM_sum (m : List Mem) : szM m ≤ sumSize Mem.size m := by rw [← Val.sizeM_eq]; exact szM_le m
theorem ltStrs_le (l : List Str) : ltStrs l ≤ strsSize l := by
  have : ltStrs l ≤ sumSize (fun s : Str => s.length + 1) l := sum_le (fun _ => by omega) l
  unfold strsSize; omega
theorem ltPars_le (l : List Par) : ltPars l ≤ sumSize Par.size l := sum_le (fun p => by have := szV_le p.d; unfold Par.size; omega) l
theorem ltDirs_le (l : List Dirc) : ltDirs l ≤ sumSize Dirc.size l := sum_le (fun d => by have := szM_sum d.args; unfold Dirc.size; omega) l
theorem ltFlds_le (l : List Fld) : ltFlds l ≤ sumSize Fld.size l := sum_le (fun f => by have := ltPars_le f.params; have := ltDirs_le f.dirs; unfold Fld.size; omega) l
theorem ltDfn_le (d : Dfn) : ltDfn d ≤ d.size := by
  have := ltStrs_le d.faces; have := ltStrs_le d.parts; have := ltPars_le d.params; have := ltFlds_le d.fields
  unfold ltDfn Dfn.size; omega
theorem ltSch_le (s : Sch) : ltSch s ≤ s.size := by
  have : ltSch s ≤ sumSize Dfn.size s.defs := sum_le ltDfn_le s.defs
  unfold Sch.size; omega
theorem ltTexts (l : List Str) (h : ltStrs l ≤ 68719476736) (hl : l.length ≤ 68719476736) : PFn Tryz.prog 11 [.slice (l.map AV.str) .no] (.int .i64 (ltStrs l)) := by
  refine AFn.plain rfl (by simp [AV.closedL, AV.closed, str_closedL]) (AFn.en [2] Tryz.func11 ?_)
  refine .go ?_
  refine HCode.forK l.length (fun k => [(4, .int .i64 k), (3, .int .i64 (ltStrs (l.take k))), (0, .slice (l.map AV.str) .no)]) (fun _ => ⟨[], []⟩) (fun _ => True) ⟨rfl, rfl, rfl, trivial⟩ rfl trivial fun k hk _ => ?_
  by_cases h1 : k < l.length
  · have d1 : decide ((k : Int) < (l.length : Int)) = true := by simp [h1]
    have x1 := map_get' (f := AV.str) h1
    have ht : ltStrs (l.take (k + 1)) = ltStrs (l.take k) + (1 + l[k].length) := sum_take h1
    have hm : ltStrs (l.take (k + 1)) ≤ ltStrs l := sum_mono _ l (k + 1)
    refine .go ?_
    exact ⟨h1, ⟨rfl, congrArg (AV.int .i64) (by rw [ht]; omega), rfl, trivial⟩, by simp [belowS, AV.low], rfl, rfl, trivial⟩
  · have d1 : decide ((k : Int) < (l.length : Int)) = false := by simp; omega
    obtain rfl : k = l.length := by omega
    refine .go ?_
    refine Fin.ret1 rfl (Weak.eq (congrArg (AV.int .i64) ?_))
    rw [List.take_length]
theorem ltParams (l : List Par) (h : sumSize Par.size l ≤ 68719476736) : PFn Tryz.prog 12 [.slice (l.map Par.enc) .no] (.int .i64 (ltPars l)) := by
  have hl := sumSize_length Par.size_pos l
  have hle := ltPars_le l
  refine AFn.plain rfl (by simp [AV.closedL, AV.closed, Par.closedL]) (AFn.en [2] Tryz.func12 ?_)
  refine .go ?_
  refine HCode.forK l.length (fun k => [(4, .int .i64 k), (3, .int .i64 (ltPars (l.take k))), (0, .slice (l.map Par.enc) .no)]) (fun _ => ⟨[], []⟩) (fun _ => True) ⟨rfl, rfl, rfl, trivial⟩ rfl trivial fun k hk _ => ?_
  by_cases h1 : k < l.length
  · have d1 : decide ((k : Int) < (l.length : Int)) = true := by simp [h1]
    have x1 := map_get' (f := Par.enc) h1
    have hz := kSize' l[k].d (by have := sumSize_mem (size := Par.size) (List.getElem_mem h1); have := l[k].lens; omega)
    have ht : ltPars (l.take (k + 1)) = ltPars (l.take k) + (1 + l[k].name.length + szV l[k].d) := sum_take h1
    have hm : ltPars (l.take (k + 1)) ≤ ltPars l := sum_mono _ l (k + 1)
    refine .go ?_
    exact ⟨h1, ⟨rfl, congrArg (AV.int .i64) (by rw [ht]; omega), rfl, trivial⟩, by simp [belowS, AV.low], rfl, rfl, trivial⟩
  · have d1 : decide ((k : Int) < (l.length : Int)) = false := by simp; omega
    obtain rfl : k = l.length := by omega
    refine .go ?_
    refine Fin.ret1 rfl (Weak.eq (congrArg (AV.int .i64) ?_))
    rw [List.take_length]
theorem ltDirsW (l : List Dirc) (h : sumSize Dirc.size l ≤ 68719476736) : PFn Tryz.prog 13 [.slice (l.map Dirc.enc) .no] (.int .i64 (ltDirs l)) := by
  have hl := sumSize_length Dirc.size_pos l
  have hle := ltDirs_le l
  refine AFn.plain rfl (by simp [AV.closedL, AV.closed, Dirc.closedL]) (AFn.en [2] Tryz.func13 ?_)
  refine .go ?_
  refine HCode.forK l.length (fun k => [(4, .int .i64 k), (3, .int .i64 (ltDirs (l.take k))), (0, .slice (l.map Dirc.enc) .no)]) (fun _ => ⟨[], []⟩) (fun _ => True) ⟨rfl, rfl, rfl, trivial⟩ rfl trivial fun k hk _ => ?_
  by_cases h1 : k < l.length
  · have d1 : decide ((k : Int) < (l.length : Int)) = true := by simp [h1]
    have x1 := map_get' (f := Dirc.enc) h1
    have hz := kSize' (.mk 0 0 [] [] l[k].args) (by
      have h2 := sumSize_mem (size := Dirc.size) (List.getElem_mem h1)
      have h3 : l[k].size = l[k].name.length + sumSize Mem.size l[k].args + 3 := rfl
      rw [Val.size, Val.sizeL, Val.sizeM_eq]; simp only [List.length_nil]; omega)
    have e0 : szV (.mk 0 0 [] [] l[k].args) = 1 + szM l[k].args := by rw [szV, szL]; simp only [List.length_nil]
    rw [e0] at hz
    have ew : WeakL [AV.agg [.int .i64 0, .int .i64 0, .str [], .slice [] .nil, .slice (l[k].args.map Mem.enc) .no]] [(Val.mk 0 0 [] [] l[k].args).enc] := by
      refine WeakL.cons ?_ (WeakL.refl _)
      unfold Val.enc
      rw [lv_mk, Val.mv_eq]
      exact Weak.agg (WeakL.cons (Weak.refl _) (WeakL.cons (Weak.refl _) (WeakL.cons (Weak.refl _) (WeakL.cons (Weak.no (WeakL.refl _)) (WeakL.refl _)))))
    have ht : ltDirs (l.take (k + 1)) = ltDirs (l.take k) + (1 + l[k].name.length + (1 + szM l[k].args)) := sum_take h1
    have hm : ltDirs (l.take (k + 1)) ≤ ltDirs l := sum_mono _ l (k + 1)
    repeat' first | refine A.call rfl hz ew ?_ | refine .s1 ?_ | (refine .q ?_ ?_ <;> intro hc) | fail
    exact ⟨h1, ⟨rfl, congrArg (AV.int .i64) (by rw [ht]; omega), rfl, trivial⟩, by simp [belowS, AV.low], rfl, rfl, trivial⟩
  · have d1 : decide ((k : Int) < (l.length : Int)) = false := by simp; omega
    obtain rfl : k = l.length := by omega
    refine .go ?_
    refine Fin.ret1 rfl (Weak.eq (congrArg (AV.int .i64) ?_))
    rw [List.take_length]
theorem Dfn.sums (d : Dfn) : sumSize Par.size d.params ≤ d.size ∧ sumSize Fld.size d.fields ≤ d.size ∧ strsSize d.faces ≤ d.size ∧ strsSize d.parts ≤ d.size := by unfold Dfn.size; omega
theorem Fld.sums (f : Fld) : sumSize Par.size f.params ≤ f.size ∧ sumSize Dirc.size f.dirs ≤ f.size ∧ f.name.length ≤ f.size ∧ f.t.name.length ≤ f.size := by unfold Fld.size Typ.size; omega
def lightS (s : Sch) : Bool := decide (ltSch s ≤ 4000)
theorem light8 (s : Sch) (hs : s.size ≤ 68719476736) : PFn Tryz.prog 4 [s.enc] (.bool (lightS s)) := by
  have hl := s.len
  have hle := ltSch_le s
  refine AFn.plain rfl (by simp [AV.closedL, Sch.closed]) (AFn.en [2] Tryz.func4 ?_)
  refine .gob ?_
  refine HCode.forK s.defs.length (fun k => [(4, .int .i64 k), (3, .int .i64 (sumSize ltDfn (s.defs.take k) : Nat)), (1, .rptr s.enc)]) (fun _ => ⟨[], []⟩) (fun _ => True) ⟨rfl, rfl, rfl, trivial⟩ rfl trivial fun k hk _ => ?_
  by_cases h1 : k < s.defs.length
  · have d1 : decide ((k : Int) < (s.defs.length : Int)) = true := by simp [h1]
    have x1 := map_get' (f := Dfn.enc) h1
    have hds := Sch.dfn (List.getElem_mem h1)
    have hlen := s.defs[k].lens
    have hsum := s.defs[k].sums
    have q1 := ltTexts s.defs[k].faces (by have := ltStrs_le s.defs[k].faces; omega) (by omega)
    have q2 := ltTexts s.defs[k].parts (by have := ltStrs_le s.defs[k].parts; omega) (by omega)
    have q3 := ltParams s.defs[k].params (by omega)
    have ht : sumSize ltDfn (s.defs.take (k + 1)) = sumSize ltDfn (s.defs.take k) + ltDfn s.defs[k] := sum_take h1
    have hm : sumSize ltDfn (s.defs.take (k + 1)) ≤ ltSch s := sum_mono _ s.defs (k + 1)
    have hdd : ltDfn s.defs[k] = 1 + s.defs[k].name.length + ltStrs s.defs[k].faces + ltStrs s.defs[k].parts + ltPars s.defs[k].params + ltFlds s.defs[k].fields := rfl
    refine .go ?_
    refine HCode.forK s.defs[k].fields.length (fun j => [(6, .int .i64 j), (3, .int .i64 ((sumSize ltDfn (s.defs.take k) : Nat) + 1 + s.defs[k].name.length + ltStrs s.defs[k].faces + ltStrs s.defs[k].parts + ltPars s.defs[k].params + ltFlds (s.defs[k].fields.take j))), (1, .rptr s.enc), (4, .int .i64 k), (5, .ptr 0 0)])
      (fun _ => ⟨[.cells [.int .i64 s.defs[k].kind, .str s.defs[k].name, .slice (s.defs[k].faces.map AV.str) .no, .slice (s.defs[k].fields.map Fld.enc) .no, .slice (s.defs[k].parts.map AV.str) .no, .slice (s.defs[k].params.map Par.enc) .no]], []⟩) (fun _ => True)
      ⟨rfl, congrArg (AV.int .i64) (by rw [List.take_zero]; simp [ltFlds, sumSize]), rfl, rfl, rfl, trivial⟩ rfl trivial fun j hj _ => ?_
    by_cases h2 : j < s.defs[k].fields.length
    · have d2 : decide ((j : Int) < (s.defs[k].fields.length : Int)) = true := by simp [h2]
      have x2 := map_get' (f := Fld.enc) h2
      have hfm := sumSize_mem (size := Fld.size) (List.getElem_mem h2)
      have hfs := s.defs[k].fields[j].sums
      have q4 := ltParams s.defs[k].fields[j].params (by omega)
      have q5 := ltDirsW s.defs[k].fields[j].dirs (by omega)
      have hft : ltFlds (s.defs[k].fields.take (j + 1)) = ltFlds (s.defs[k].fields.take j) + (1 + s.defs[k].fields[j].name.length + ltPars s.defs[k].fields[j].params + ltDirs s.defs[k].fields[j].dirs) := sum_take h2
      have hfm' : ltFlds (s.defs[k].fields.take (j + 1)) ≤ ltFlds s.defs[k].fields := sum_mono _ _ (j + 1)
      refine .go ?_
      exact ⟨h2, ⟨rfl, congrArg (AV.int .i64) (by rw [hft]; omega), rfl, rfl, rfl, trivial⟩, by simp [belowS, AV.low], by simp [belowB, belowT, Ob.low, AV.lowL, AV.low], rfl, trivial⟩
    · have d2 : decide ((j : Int) < (s.defs[k].fields.length : Int)) = false := by simp; omega
      obtain rfl : j = s.defs[k].fields.length := by omega
      refine .go ?_
      exact ⟨h1, ⟨rfl, congrArg (AV.int .i64) (by rw [ht, List.take_length]; omega), rfl, trivial⟩, by simp [belowS, AV.low], rfl, rfl, trivial⟩
  · have d1 : decide ((k : Int) < (s.defs.length : Int)) = false := by simp; omega
    obtain rfl : k = s.defs.length := by omega
    refine .go ?_
    refine Fin.rb ?_
    unfold lightS ltSch
    rw [List.take_length, Bool.eq_iff_iff]; simp only [decide_eq_true_eq]; omega
theorem all_next {α : Type} {p : α → Bool} {l : List α} {k : Nat} (h : k < l.length) (hj : (l.take k).all p = true) (hp : p l[k] = true) : (l.take (k + 1)).all p = true := by
  rw [List.take_succ_eq_append_getElem h, List.all_append, hj]; simp [hp]
theorem all_stop {α : Type} {p : α → Bool} {l : List α} {k : Nat} (h : k < l.length) (hp : p l[k] = false) : l.all p = false := by
  rw [Bool.eq_false_iff]
  intro ha
  rw [List.all_eq_true] at ha
  have := ha _ (List.getElem_mem h)
  rw [hp] at this; cases this
theorem fold_take {α β : Type} {f : β → α → β} {a : β} {l : List α} {k : Nat} (h : k < l.length) : (l.take (k + 1)).foldl f a = f ((l.take k).foldl f a) l[k] := by
  rw [List.take_succ_eq_append_getElem h, List.foldl_append]; rfl
abbrev AddC (xs : List Str) (n : Str) : Prop := AFn Tryz.prog 103 [.slice (xs.map AV.str) (.own 0 1), .str n] ⟨[], [.len xs.length]⟩ (fun e σ => e = .ret (.slice ((addNew xs n).map AV.str) (.own 0 1)) ∧ σ = ⟨[], [.len (addNew xs n).length]⟩)
theorem dAdd (xs : List Str) (n : Str) (hx : xs.length ≤ 137438953472) : AddC xs n := by
  have hct := sContainsStr xs n (by omega)
  have hwk : WeakL [.slice (xs.map AV.str) (.own 0 1), .str n] [.slice (xs.map AV.str) .no, .str n] := WeakL.cons (Weak.no (WeakL.refl _)) (WeakL.refl _)
  refine AFn.en [4] Tryz.func103 ?_
  unfold addNew
  by_cases c : n ∈ xs
  · rw [decide_eq_true c] at hct
    rw [if_pos c]
    repeat' first | refine A.call rfl hct hwk ?_ | refine .s1 ?_ | (refine .q ?_ ?_ <;> intro hc) | fail
    exact ⟨rfl, rfl⟩
  · rw [decide_eq_false c] at hct
    rw [if_neg c]
    repeat' first | refine A.call rfl hct hwk ?_ | refine .s1 ?_ | (refine .q ?_ ?_ <;> intro hc) | refine A.append (n := xs.length) rfl rfl rfl rfl rfl rfl rfl rfl (List.length_map ..) rfl (by dsimp only [List.length_cons, List.length_nil]; omega) (by dsimp only [List.length_cons, List.length_nil]; omega) rfl ?_ | fail
    exact ⟨by rw [List.map_append]; rfl, by rw [List.length_append]; rfl⟩
theorem possF_len (name : Str) (l : List Dfn) : (l.foldl (fun l x => possF l x name) []).length ≤ l.length := by
  have aux : ∀ (l : List Dfn) (a : List Str), (l.foldl (fun l x => possF l x name) a).length ≤ a.length + l.length := fun l => by
    induction l with
    | nil => intro a; simp
    | cons x l ih =>
      intro a
      rw [List.foldl_cons, List.length_cons]
      have h1 := ih (possF a x name)
      have h2 : (possF a x name).length ≤ a.length + 1 := by
        unfold possF
        split
        · exact addNew_len _ _
        · omega
      omega
  simpa using aux l []
theorem possU_len (s : Sch) (l : List Str) : (l.foldl (possU s) []).length ≤ l.length := by
  have aux : ∀ (l : List Str) (a : List Str), (l.foldl (possU s) a).length ≤ a.length + l.length := fun l => by
    induction l with
    | nil => intro a; simp
    | cons x l ih =>
      intro a
      rw [List.foldl_cons, List.length_cons]
      have h1 := ih (possU s a x)
      have h2 : (possU s a x).length ≤ a.length + 1 := by
        unfold possU
        split
        · exact addNew_len _ _
        · omega
      omega
  simpa using aux l []
theorem dPossible (s : Sch) (name : Str) (hs : s.size ≤ 1048640) : PFn Tryz.prog 62 [s.enc, .str name] (.slice ((possB s name).map AV.str) .no) := by
  have hf := dFind s name (by omega)
  have hz := findR_size (name := name) (show s.size ≤ 68719476736 by omega)
  have hl := s.len
  refine AFn.plain (str_closedL _) (by simp [AV.closed, AV.closedL, Sch.closed]) (AFn.en [4] Tryz.func62 ?_)
  unfold possB
  unfold findR at hf hz
  cases hfo : findO s name with
  | none =>
    rw [hfo] at hf
    refine .gob ?_
    exact Fin.ret1 rfl (Weak.no (WeakL.refl _))
  | some d =>
    rw [hfo] at hf hz
    simp only at hf hz ⊢
    by_cases k1 : d.kind = 1
    · have q1 : (d.kind == 1) = true := by simp [k1]
      rw [if_pos k1]
      refine .gob ?_
      exact Fin.ret1 rfl (Weak.no (WeakL.refl _))
    · have q1 : (d.kind == 1) = false := by simp [k1]
      rw [if_neg k1]
      by_cases k2 : d.kind = 2
      · have q2 : (d.kind == 2) = true := by simp [k2]
        rw [if_pos k2]
        refine .gob ?_
        refine HCode.adopt 7 false 1 rfl rfl rfl rfl rfl rfl ?_
        refine HCode.forK s.defs.length (fun k => [(31, .int .i64 k), (30, .int .i64 s.defs.length), (29, .slice (s.defs.map Dfn.enc) .no), (1, .str name), (7, .slice (((s.defs.take k).foldl (fun l x => possF l x name) []).map AV.str) (.own 0 1))])
          (fun k => ⟨[.cells [.int .i64 d.kind, .str d.name, .slice (d.faces.map AV.str) .no, .slice (d.fields.map Fld.enc) .no, .slice (d.parts.map AV.str) .no, .slice (d.params.map Par.enc) .no]], [.len ((s.defs.take k).foldl (fun l x => possF l x name) []).length]⟩) (fun _ => True) ⟨rfl, rfl, rfl, rfl, rfl, trivial⟩ rfl trivial fun k hk _ => ?_
        by_cases h1 : k < s.defs.length
        · have d1 : decide ((k : Int) < (s.defs.length : Int)) = true := by simp [h1]
          have x1 := map_get' (f := Dfn.enc) h1
          have hds := Sch.dfn (List.getElem_mem h1)
          have hdl := s.defs[k].lens
          have hct := sContainsStr s.defs[k].faces name (by omega)
          have hst := fold_take (f := fun l x => possF l x name) (a := []) h1
          have hpl := possF_len name (s.defs.take k)
          rw [List.length_take] at hpl
          have had := dAdd ((s.defs.take k).foldl (fun l x => possF l x name) []) s.defs[k].name (by omega)
          generalize (s.defs.take k).foldl (fun l x => possF l x name) [] = xs at had hst
          by_cases j1 : s.defs[k].kind = 1
          · have r1 : (s.defs[k].kind == 1) = true := by simp [j1]
            by_cases c : name ∈ s.defs[k].faces
            · rw [decide_eq_true c] at hct
              replace hst := hst.trans (show possF xs s.defs[k] name = addNew xs s.defs[k].name by unfold possF; rw [if_pos ⟨j1, c⟩])
              repeat' first | refine .s1 ?_ | (refine .q ?_ ?_ <;> intro hc) | refine A.callG 0 rfl had rfl (str_closedL _) (str_closedL _) (by simp [AV.closedL, AV.closed]) (WeakL.refl _) rfl ?_ | fail
              exact ⟨h1, ⟨rfl, rfl, rfl, rfl, by rw [hst]; rfl, trivial⟩, by simp [-List.map_take, belowS, AV.low], by simp [belowB, belowT, Ob.low, Tok.low, AV.lowL, AV.low], by rw [hst]; rfl, trivial⟩
            · rw [decide_eq_false c] at hct
              replace hst := hst.trans (show possF xs s.defs[k] name = xs by unfold possF; rw [if_neg (fun h => c h.2)])
              refine .go ?_
              exact ⟨h1, ⟨rfl, rfl, rfl, rfl, by rw [hst]; rfl, trivial⟩, by simp [-List.map_take, belowS, AV.low], by simp [belowB, belowT, Ob.low, Tok.low, AV.lowL, AV.low], by rw [hst]; rfl, trivial⟩
          · have r1 : (s.defs[k].kind == 1) = false := by simp [j1]
            replace hst := hst.trans (show possF xs s.defs[k] name = xs by unfold possF; rw [if_neg (fun h => j1 h.1)])
            refine .go ?_
            exact ⟨h1, ⟨rfl, rfl, rfl, rfl, by rw [hst]; rfl, trivial⟩, by simp [-List.map_take, belowS, AV.low], by simp [belowB, belowT, Ob.low, Tok.low, AV.lowL, AV.low], by rw [hst]; rfl, trivial⟩
        · have d1 : decide ((k : Int) < (s.defs.length : Int)) = false := by simp; omega
          obtain rfl : k = s.defs.length := by omega
          rw [List.take_length]
          refine .go ?_
          exact Fin.ret1 rfl (Weak.no (WeakL.refl _))
      · have q2 : (d.kind == 2) = false := by simp [k2]
        rw [if_neg k2]
        by_cases k3 : d.kind = 3
        · have q3 : (d.kind == 3) = true := by simp [k3]
          rw [if_pos k3]
          refine .gob ?_
          refine HCode.adopt 7 false 1 rfl rfl rfl rfl rfl rfl ?_
          refine HCode.forK d.parts.length (fun k => [(54, .int .i64 k), (53, .int .i64 d.parts.length), (52, .slice (d.parts.map AV.str) .no), (2, .rptr s.enc), (7, .slice (((d.parts.take k).foldl (possU s) []).map AV.str) (.own 0 1))])
            (fun k => ⟨[.cells [.int .i64 d.kind, .str d.name, .slice (d.faces.map AV.str) .no, .slice (d.fields.map Fld.enc) .no, .slice (d.parts.map AV.str) .no, .slice (d.params.map Par.enc) .no]], [.len ((d.parts.take k).foldl (possU s) []).length]⟩) (fun _ => True) ⟨rfl, rfl, rfl, rfl, rfl, trivial⟩ rfl trivial fun k hk _ => ?_
          by_cases h1 : k < d.parts.length
          · have d1 : decide ((k : Int) < (d.parts.length : Int)) = true := by simp [h1]
            have x1 := map_get' (f := AV.str) h1
            have hkd := dKind s d.parts[k] [1] (by omega) (by decide)
            have hst := fold_take (f := possU s) (a := []) h1
            have hpl := possU_len s (d.parts.take k)
            rw [List.length_take] at hpl
            have had := dAdd ((d.parts.take k).foldl (possU s) []) d.parts[k] (by omega)
            generalize (d.parts.take k).foldl (possU s) [] = xs at had hst
            cases c : kindB s d.parts[k] [1] with
            | true =>
              rw [c] at hkd
              replace hst := hst.trans (show possU s xs d.parts[k] = addNew xs d.parts[k] by unfold possU; rw [if_pos c])
              repeat' first | refine .s1 ?_ | (refine .q ?_ ?_ <;> intro hc) | refine A.callG 0 rfl had rfl (str_closedL _) (str_closedL _) (by simp [AV.closedL, AV.closed]) (WeakL.refl _) rfl ?_ | fail
              exact ⟨h1, ⟨rfl, rfl, rfl, rfl, by rw [hst]; rfl, trivial⟩, by simp [-List.map_take, belowS, AV.low], by simp [belowB, belowT, Ob.low, Tok.low, AV.lowL, AV.low], by rw [hst]; rfl, trivial⟩
            | false =>
              rw [c] at hkd
              replace hst := hst.trans (show possU s xs d.parts[k] = xs by unfold possU; rw [if_neg (by rw [c]; decide)])
              refine .go ?_
              exact ⟨h1, ⟨rfl, rfl, rfl, rfl, by rw [hst]; rfl, trivial⟩, by simp [-List.map_take, belowS, AV.low], by simp [belowB, belowT, Ob.low, Tok.low, AV.lowL, AV.low], by rw [hst]; rfl, trivial⟩
          · have d1 : decide ((k : Int) < (d.parts.length : Int)) = false := by simp; omega
            obtain rfl : k = d.parts.length := by omega
            rw [List.take_length]
            refine .go ?_
            exact Fin.ret1 rfl (Weak.no (WeakL.refl _))
        · have q3 : (d.kind == 3) = false := by simp [k3]
          rw [if_neg k3]
          refine .gob ?_
          exact Fin.ret1 rfl (Weak.no (WeakL.refl _))
theorem poss_len (s : Sch) (name : Str) (hs : s.size ≤ 1048640) : (possB s name).length ≤ 68719476736 := by
  have hz := findR_size (name := name) (show s.size ≤ 68719476736 by omega)
  have hl := s.len
  unfold findR at hz
  unfold possB
  cases hfo : findO s name with
  | none => simp
  | some d =>
    rw [hfo] at hz
    simp only at hz ⊢
    split
    · simp
    · split
      · have := possF_len name s.defs; omega
      · split
        · have := possU_len s d.parts; omega
        · simp
def typeFs2 : List Field := [{ name := "Name", type := 9, offset := 0, embedded := false, tag := "", pkgPath := "", byteOffset := 0 }, { name := "Lists", type := 3, offset := 1, embedded := false, tag := "", pkgPath := "", byteOffset := 16 }, { name := "Musts", type := 3, offset := 2, embedded := false, tag := "", pkgPath := "", byteOffset := 24 }]
theorem eq_type2 : EqT Tryz.prog 27 typeFs2 := ⟨Tryz.underlying27, by kernel_rfl, by kernel_rfl, by decide⟩
theorem typ_eq (a b : Typ) : decide (a = b) = (a.name == b.name && (a.lists == b.lists && (a.musts == b.musts && true))) := by
  obtain ⟨n1, l1, m1⟩ := a
  obtain ⟨n2, l2, m2⟩ := b
  rw [Bool.eq_iff_iff, decide_eq_true_eq]
  simp
def takes1 (f : Fld) (p : Par) : Bool := match parO f.params p.name with | none => false | some q => decide (q.t = p.t)
def takes2 (g : Fld) (q : Par) : Bool := !((parO g.params q.name).isNone && reqB q)
theorem takes_eq (f g : Fld) : takesB f g = (g.params.all (takes1 f) && f.params.all (takes2 g)) := rfl
theorem sIndexFDirc (l : List Dirc) (f : FuncId) (cs : List AV) (p : Dirc → Bool) (hl : l.length ≤ 9223372036854775807) (hcl : AV.closedL cs = true) (hf : ∀ x ∈ l, PFn Tryz.prog f (Dirc.enc x :: cs) (.bool (p x))) :
    PFn Tryz.prog 193 [.slice (l.map Dirc.enc) .no, .fn (.func f) [] cs] (.int .i64 (idxFrom p l 0)) := by
  refine AFn.plain rfl (by simp [AV.closed, AV.closedL, Dirc.closedL, hcl]) (AFn.en [4] Tryz.func193 ?_)
  refine .go ?_
  refine HCode.forK l.length (fun k => [(8, .int .i64 k), (7, .int .i64 l.length), (0, .slice (l.map Dirc.enc) .no), (1, .fn (.func f) [] cs)]) (fun _ => ⟨[], []⟩) (fun k => idxFrom p l 0 = idxFrom p (l.drop k) k) ⟨rfl, rfl, rfl, rfl, trivial⟩ rfl rfl fun k hk hp => ?_
  by_cases h1 : k < l.length
  · have d1 : decide ((k : Int) < (l.length : Int)) = true := by simp [h1]
    have x1 := map_get' (f := Dirc.enc) h1
    have hcc := hf l[k] (List.getElem_mem h1)
    have hd := idxFrom_drop (p := p) h1
    repeat' first | refine .s1 ?_ | (refine .q ?_ ?_ <;> intro hc) | fail
    · refine Fin.ret1 rfl (Weak.eq ?_)
      rw [hp, hd, if_pos hc]
    · exact ⟨h1, ⟨rfl, rfl, rfl, rfl, trivial⟩, by simp [belowS, AV.low, AV.lowL, AV.lowL_of_closed _ _ _ hcl], rfl, rfl, by rw [hp, hd, if_neg (by simp [hc])]⟩
  · have d1 : decide ((k : Int) < (l.length : Int)) = false := by simp; omega
    refine .go ?_
    refine Fin.ret1 rfl (Weak.eq ?_)
    rw [hp, List.drop_eq_nil_of_le (by omega), idxFrom]
theorem sIndexFGrp (l : List Grp) (f : FuncId) (cs : List AV) (p : Grp → Bool) (hl : l.length ≤ 9223372036854775807) (hcl : AV.closedL cs = true) (hf : ∀ x ∈ l, PFn Tryz.prog f (Grp.enc x :: cs) (.bool (p x))) :
    PFn Tryz.prog 171 [.slice (l.map Grp.enc) .no, .fn (.func f) [] cs] (.int .i64 (idxFrom p l 0)) := by
  refine AFn.plain rfl (by simp [AV.closed, AV.closedL, Grp.closedL, hcl]) (AFn.en [4] Tryz.func171 ?_)
  refine .go ?_
  refine HCode.forK l.length (fun k => [(8, .int .i64 k), (7, .int .i64 l.length), (0, .slice (l.map Grp.enc) .no), (1, .fn (.func f) [] cs)]) (fun _ => ⟨[], []⟩) (fun k => idxFrom p l 0 = idxFrom p (l.drop k) k) ⟨rfl, rfl, rfl, rfl, trivial⟩ rfl rfl fun k hk hp => ?_
  by_cases h1 : k < l.length
  · have d1 : decide ((k : Int) < (l.length : Int)) = true := by simp [h1]
    have x1 := map_get' (f := Grp.enc) h1
    have hcc := hf l[k] (List.getElem_mem h1)
    have hd := idxFrom_drop (p := p) h1
    repeat' first | refine .s1 ?_ | (refine .q ?_ ?_ <;> intro hc) | fail
    · refine Fin.ret1 rfl (Weak.eq ?_)
      rw [hp, hd, if_pos hc]
    · exact ⟨h1, ⟨rfl, rfl, rfl, rfl, trivial⟩, by simp [belowS, AV.low, AV.lowL, AV.lowL_of_closed _ _ _ hcl], rfl, rfl, by rw [hp, hd, if_neg (by simp [hc])]⟩
  · have d1 : decide ((k : Int) < (l.length : Int)) = false := by simp; omega
    refine .go ?_
    refine Fin.ret1 rfl (Weak.eq ?_)
    rw [hp, List.drop_eq_nil_of_le (by omega), idxFrom]
theorem sIndexFFrg (l : List Frg) (f : FuncId) (cs : List AV) (p : Frg → Bool) (hl : l.length ≤ 9223372036854775807) (hcl : AV.closedL cs = true) (hf : ∀ x ∈ l, PFn Tryz.prog f (Frg.enc x :: cs) (.bool (p x))) :
    PFn Tryz.prog 98 [.slice (l.map Frg.enc) .no, .fn (.func f) [] cs] (.int .i64 (idxFrom p l 0)) := by
  refine AFn.plain rfl (by simp [AV.closed, AV.closedL, Frg.closedL, hcl]) (AFn.en [4] Tryz.func98 ?_)
  refine .go ?_
  refine HCode.forK l.length (fun k => [(8, .int .i64 k), (7, .int .i64 l.length), (0, .slice (l.map Frg.enc) .no), (1, .fn (.func f) [] cs)]) (fun _ => ⟨[], []⟩) (fun k => idxFrom p l 0 = idxFrom p (l.drop k) k) ⟨rfl, rfl, rfl, rfl, trivial⟩ rfl rfl fun k hk hp => ?_
  by_cases h1 : k < l.length
  · have d1 : decide ((k : Int) < (l.length : Int)) = true := by simp [h1]
    have x1 := map_get' (f := Frg.enc) h1
    have hcc := hf l[k] (List.getElem_mem h1)
    have hd := idxFrom_drop (p := p) h1
    repeat' first | refine .s1 ?_ | (refine .q ?_ ?_ <;> intro hc) | fail
    · refine Fin.ret1 rfl (Weak.eq ?_)
      rw [hp, hd, if_pos hc]
    · exact ⟨h1, ⟨rfl, rfl, rfl, rfl, trivial⟩, by simp [belowS, AV.low, AV.lowL, AV.lowL_of_closed _ _ _ hcl], rfl, rfl, by rw [hp, hd, if_neg (by simp [hc])]⟩
  · have d1 : decide ((k : Int) < (l.length : Int)) = false := by simp; omega
    refine .go ?_
    refine Fin.ret1 rfl (Weak.eq ?_)
    rw [hp, List.drop_eq_nil_of_le (by omega), idxFrom]
theorem colYes (env : List Mem) (d : Dirc) (he : env.length ≤ 9223372036854775807) (hd : d.args.length ≤ 9223372036854775807) : PFn Tryz.prog 195 [.slice (env.map Mem.enc) .no, d.enc] (.bool (yesB env d)) := by
  have h1 := get sIf d.args hd
  refine AFn.plain rfl (by simp [AV.closed, AV.closedL, Mem.closedL, Dirc.closed]) (AFn.en [4] Tryz.func195 ?_)
  unfold yesB
  generalize (getG sIf d.args) = u at *
  obtain ⟨v, b⟩ := u
  have h2 := get v.s env he
  by_cases c : v.kind = 8
  · have e8 : (v.kind == 8) = true := by rw [c]; rfl
    simp only [if_pos c]
    generalize (getG v.s env) = u2 at *
    obtain ⟨w, b2⟩ := u2
    simp only at h2
    cases e1 : (w.kind == 1) with
    | false =>
      refine .gob ?_
      exact Fin.ret1 rfl (Weak.eq (by simp [e1]))
    | true =>
      refine .gob ?_
      exact Fin.ret1 rfl (Weak.eq (by simp [e1]))
  · have e8 : (v.kind == 8) = false := by simpa using c
    simp only [if_neg c]
    cases e1 : (v.kind == 1) with
    | false =>
      refine .gob ?_
      exact Fin.ret1 rfl (Weak.eq (by simp [e1]))
    | true =>
      refine .gob ?_
      exact Fin.ret1 rfl (Weak.eq (by simp [e1]))
theorem colFirst1 (name : Str) (d : Dirc) : PFn Tryz.prog 194 [d.enc, .rptr (.str name)] (.bool (d.name == name)) := by
  refine AFn.plain rfl (by simp [AV.closed, AV.closedL, Dirc.closed]) (AFn.en [3] Tryz.func194 ?_)
  refine .gob ?_
  exact Fin.r0
def firstB (env : List Mem) (name : Str) (l : List Dirc) : Bool × Bool := match firstD name l with
  | some d => (true, yesB env d)
  | none => (false, false)
theorem colFirst (env : List Mem) (name : Str) (l : List Dirc) (he : env.length ≤ 9223372036854775807) (hl : sumSize Dirc.size l ≤ 68719476736) :
    PFn Tryz.prog 169 [.slice (env.map Mem.enc) .no, .str name, .slice (l.map Dirc.enc) .no] (.tup [.bool (firstB env name l).1, .bool (firstB env name l).2]) := by
  have hll := sumSize_length (size := Dirc.size) (fun d => by unfold Dirc.size; omega) l
  have hi := sIndexFDirc l 194 [.rptr (.str name)] (fun d => d.name == name) (by omega) rfl (fun d _ => colFirst1 name d)
  refine AFn.plain rfl (by simp [AV.closed, AV.closedL, Mem.closedL, Dirc.closedL]) (AFn.en [6, 7] Tryz.func169 ?_)
  unfold firstB firstD
  rcases idxFrom_spec (fun d : Dirc => d.name == name) l 0 with ⟨q1, q2⟩ | ⟨j, hj, q1, q2⟩
  · rw [q1] at hi
    rw [q2]
    have d1 : decide ((-1 : Int) ≥ 0) = false := rfl
    repeat' first | refine .br ?_ | refine .s1 ?_ | (refine .q ?_ ?_ <;> intro hc) | fail
    exact Fin.two rfl rfl (Weak.refl _)
  · rw [q1, Nat.zero_add] at hi
    rw [q2]
    have d1 : decide ((j : Int) ≥ 0) = true := decide_eq_true (by omega)
    have x1 := map_get' (f := Dirc.enc) hj
    have hz := sumSize_mem (size := Dirc.size) (List.getElem_mem hj)
    have hds : (l[j]).size = l[j].name.length + sumSize Mem.size l[j].args + 3 := rfl
    have hml := sumSize_length Mem.size_pos l[j].args
    have hy := colYes env l[j] he (by omega)
    repeat' first | refine .br ?_ | refine .s1 ?_ | (refine .q ?_ ?_ <;> intro hc) | fail
    exact Fin.two rfl rfl (Weak.refl _)
theorem colHolds (env : List Mem) (l : List Dirc) (he : env.length ≤ 9223372036854775807) (hl : sumSize Dirc.size l ≤ 68719476736) :
    PFn Tryz.prog 137 [.slice (env.map Mem.enc) .no, .slice (l.map Dirc.enc) .no] (.bool (holdsB env l)) := by
  have h1 := colFirst env sSkip l he hl
  have h2 := colFirst env sInclude l he hl
  have key : holdsB env l = (!(firstB env sSkip l).2 && (!(firstB env sInclude l).1 || (firstB env sInclude l).2)) := by
    unfold holdsB firstB
    cases firstD sSkip l <;> cases firstD sInclude l <;> simp
  rw [key]
  generalize firstB env sSkip l = u at *
  generalize firstB env sInclude l = v at *
  obtain ⟨a, b⟩ := u
  obtain ⟨c, d⟩ := v
  refine AFn.plain rfl (by simp [AV.closed, AV.closedL, Mem.closedL, Dirc.closedL]) (AFn.en [4] Tryz.func137 ?_)
  cases b <;> cases c
  all_goals
    repeat' first | refine .s1 ?_ | (refine .q ?_ ?_ <;> intro hc) | refine A.call rfl h2 (WeakL.refl _) ?_ | refine A.call rfl h1 (WeakL.refl _) ?_ | fail
  all_goals exact Fin.r0
theorem colApplies (s : Sch) (typ on : Str) (hs : s.size ≤ 1048640) : PFn Tryz.prog 140 [s.enc, .str typ, .str on] (.bool (applB s typ on)) := by
  have hp := dPossible s on hs
  have hl := poss_len s on hs
  have hc := sContainsStr (possB s on) typ (by omega)
  refine AFn.plain rfl (by simp [AV.closed, AV.closedL, Sch.closed]) (AFn.en [6] Tryz.func140 ?_)
  unfold applB
  cases e1 : (on == []) with
  | true =>
    refine .gob ?_
    exact Fin.r0
  | false =>
    cases e2 : (on == typ) with
    | true =>
      refine .gob ?_
      exact Fin.r0
    | false =>
      refine .gob ?_
      exact Fin.r0
theorem mKey (x : Sl) : PFn Tryz.prog 170 [x.enc] (.str (keyS x)) := by
  refine AFn.plain rfl (by simp [AV.closedL, Sl.closed]) (AFn.en [2] Tryz.func170 ?_)
  unfold keyS
  by_cases c1 : x.kind = 0
  · have e1 : (x.kind != 0) = false := by simp [c1]
    rw [if_neg (by simp [c1])]
    by_cases c2 : x.alias = []
    · have e2 : (x.alias != []) = false := by simp [c2]
      rw [if_neg (by simp [c2])]
      refine .gob ?_
      exact Fin.r0
    · have e2 : (x.alias != []) = true := by simp [c2]
      rw [if_pos c2]
      refine .gob ?_
      exact Fin.r0
  · have e1 : (x.kind != 0) = true := by simp [c1]
    rw [if_pos c1]
    refine .gob ?_
    exact Fin.r0
end Go.Proofs.YtmfmdehfbpkgdaaGreatDoor
namespace Go.Av
open Go
section
variable [Globals]
theorem Look.agg {σ : St} {cs ds : List AV} (h : LookL σ cs ds) : Look σ (.agg cs) (.agg ds) := fun g w v hI ⟨vs, e, hl, h1⟩ => ⟨vs, e, h g w _ hI hl, h1⟩
theorem Look.fn {σ : St} {f : Fn} {cs ds : List AV} (h : LookL σ cs ds) : Look σ (.fn f [] cs) (.fn f [] ds) := fun g w v hI ⟨vs, ws, e, h1, h2⟩ => ⟨vs, ws, e, h1, h g w _ hI h2⟩
theorem Look.ptr1 {σ : St} {i : Nat} {c d : AV} (hB : σ.B[i]? = some (.cells [c])) (h : Look σ c d) (hc : fits false 1 c = true) : Look σ (.ptr i 0) (.rptr d) := fun g w v hI hr => by
  obtain ⟨b, hb, rfl⟩ := hr
  obtain ⟨vals, ty, h1, h2, h3⟩ := hI.ob i b _ hb hB
  have hlt : b < w.heap.size := (Array.getElem?_eq_some_iff.1 h1).1
  obtain ⟨u, rest, e, h4, h5⟩ := h2
  have hrest : rest = [] := h5
  subst hrest
  have hu : u.cells = #[u] := ((fits_spec hc h4).2.2.1 rfl).1
  refine ⟨b, 0, u, rfl, fun j x hj => ⟨hlt, ?_, h3 x ?_⟩, h g w u hI h4⟩
  · rw [hu] at hj
    have hj' : vals[j]? = some x := by
      rw [← Array.getElem?_toList, e]
      rw [← Array.getElem?_toList] at hj
      exact hj
    unfold World.cell?
    rw [h1]
    simpa using hj'
  · rw [hu] at hj
    have hx : x ∈ [u] := List.mem_of_getElem? (by rw [← Array.getElem?_toList] at hj; exact hj)
    rw [e]; exact hx
end
end Go.Av
namespace Go.Proofs.YtmfmdehfbpkgdaaGreatDoor
open Go Go.Av
def gatCs (s : Sch) (d : Dcm) (env : List Mem) (typ : Str) (o : AV) : List AV :=
  [.slice (s.defs.map Dfn.enc) .no, .str s.query, .str s.mutation, .slice (d.ops.map Opr.enc) .no, .slice (d.frags.map Frg.enc) .no, .slice (env.map Mem.enc) .no, .str typ, o, .map 0]
def gEnc (i : Nat) (g : Grp) : AV := .agg [.str g.key, .vec (i + 1) 7 g.sels.length 0 g.sels.length]
def gEncs : Nat → List Grp → List AV
  | _, [] => []
  | i, g :: l => gEnc i g :: gEncs (i + 1) l
def gatT (out : List Grp) : List Tok := .vec (gEncs 0 out) :: out.map fun g => .vec (g.sels.map Sl.enc)
def gatB (s : Sch) (d : Dcm) (env : List Mem) (typ : Str) (met : List Str) (n : Nat) : List Ob := [.map (met.map fun x => (.str x, .bool true)), .cells (gatCs s d env typ (.vec 0 2 n 0 n))]
def gatS (s : Sch) (d : Dcm) (env : List Mem) (typ : Str) (m : Gs) : St := ⟨gatB s d env typ m.met m.out.length, gatT m.out⟩
theorem gEncs_len : ∀ (i : Nat) (l : List Grp), (gEncs i l).length = l.length
  | _, [] => rfl
  | i, g :: l => by rw [gEncs, List.length_cons, gEncs_len (i + 1) l, List.length_cons]
theorem gEncs_app : ∀ (i : Nat) (a b : List Grp), gEncs i (a ++ b) = gEncs i a ++ gEncs (i + a.length) b
  | i, [], b => by simp [gEncs]
  | i, g :: a, b => by rw [List.cons_append, gEncs, gEncs_app (i + 1) a b, gEncs, List.cons_append, List.length_cons]; congr 3; omega
theorem gEncs_get : ∀ (i : Nat) (l : List Grp) (j : Nat) (h : j < l.length), (gEncs i l)[j]? = some (gEnc (i + j) l[j])
  | i, g :: l, 0, _ => by rw [gEncs]; rfl
  | i, g :: l, j + 1, h => by
    rw [gEncs, List.getElem?_cons_succ, gEncs_get (i + 1) l j (by simpa using h), List.getElem_cons_succ]; congr 2; omega
theorem gEncs_set : ∀ (i : Nat) (l : List Grp) (j : Nat) (x : Grp), (gEncs i l).set j (gEnc (i + j) x) = gEncs i (l.set j x)
  | _, [], _, _ => by simp [gEncs]
  | i, g :: l, 0, x => by rw [gEncs, List.set_cons_zero, List.set_cons_zero, gEncs]; rfl
  | i, g :: l, j + 1, x => by rw [gEncs, List.set_cons_succ, List.set_cons_succ, gEncs, ← gEncs_set (i + 1) l j x]; congr 3; omega
theorem gatT_len (l : List Grp) : (gatT l).length = l.length + 1 := by rw [gatT, List.length_cons, List.length_map]
theorem gEncs_low (n : Nat) : ∀ (i : Nat) (l : List Grp) (m : Nat), i + l.length < m → AV.lowL n m (gEncs i l) = true
  | _, [], _, _ => by rw [gEncs, AV.lowL]
  | i, g :: l, m, h => by
    rw [List.length_cons] at h
    rw [gEncs, AV.lowL, gEncs_low n (i + 1) l m (by omega), Bool.and_true]
    simp only [gEnc, AV.low, AV.lowL, Bool.and_true, Bool.true_and]
    exact Nat.ble_eq_true_of_le (by omega)
theorem gatT_low (n : Nat) (l : List Grp) : belowT n (gatT l).length (gatT l) = true := by
  rw [gatT_len, gatT, belowT, Tok.low, gEncs_low n 0 l _ (by omega), Bool.true_and]
  have : ∀ (m : Nat) (l : List Grp), belowT n m (l.map fun g => Tok.vec (g.sels.map Sl.enc)) = true := by
    intro m l
    induction l with
    | nil => rfl
    | cons g l ih => rw [List.map_cons, belowT, Tok.low, ih, lowL_Sl]; rfl
  exact this _ l
theorem met_low (n m : Nat) : ∀ l : List Str, belowM n m (l.map fun x => (AV.str x, AV.bool true)) = true
  | [] => rfl
  | x :: l => by rw [List.map_cons, belowM, met_low n m l]; rfl
theorem gatB_low (s : Sch) (d : Dcm) (env : List Mem) (typ : Str) (met : List Str) (n m : Nat) (h : 0 < m) : belowB 2 m (gatB s d env typ met n) = true := by
  rw [gatB, belowB, belowB, belowB, Ob.low, Ob.low, met_low]
  simp [gatCs, AV.lowL, AV.low, h]
theorem addK_none {x : Sl} : ∀ {l : List Grp}, l.find? (fun g => g.key == keyS x) = none → addK x l = l ++ [⟨keyS x, [x]⟩]
  | [], _ => rfl
  | g :: l, h => by
    rw [List.find?_cons] at h
    split at h
    · cases h
    · rename_i e
      rw [addK, if_neg (by simpa using e), addK_none h]; rfl
theorem addK_some {x : Sl} : ∀ {l : List Grp} {j : Nat} (h : j < l.length), idxFrom (fun g : Grp => g.key == keyS x) l 0 = (j : Int) → addK x l = l.set j ⟨l[j].key, l[j].sels ++ [x]⟩ := by
  have key : ∀ (l : List Grp) (k j : Nat) (h : j < l.length), idxFrom (fun g : Grp => g.key == keyS x) l k = ((k + j : Nat) : Int) → addK x l = l.set j ⟨l[j].key, l[j].sels ++ [x]⟩ := by
    intro l
    induction l with
    | nil => intro k j h; simp at h
    | cons g l ih =>
      intro k j h e
      rw [idxFrom] at e
      by_cases c : (g.key == keyS x) = true
      · rw [if_pos c] at e
        obtain rfl : j = 0 := by omega
        rw [addK, if_pos (by simpa using c)]; rfl
      · rw [if_neg c] at e
        rw [addK, if_neg (by simpa using c)]
        cases j with
        | zero =>
          exfalso
          rcases idxFrom_spec (fun g : Grp => g.key == keyS x) l (k + 1) with ⟨h1, _⟩ | ⟨i, _, h1, _⟩ <;> omega
        | succ j =>
          rw [ih (k + 1) j (by simpa using h) (by rw [e]; congr 1; omega)]; rfl
  intro l j h e
  exact key l 0 j h (by rw [e]; congr 1; omega)
attribute [local irreducible] HCode AOps PFn AFn Av.Step TStep
theorem colField1 (name : Str) (g : Grp) : PFn Tryz.prog 172 [g.enc, .rptr (.str name)] (.bool (g.key == name)) := by
  refine AFn.plain rfl (by simp [AV.closed, AV.closedL, Grp.closed]) (AFn.en [3] Tryz.func172 ?_)
  refine .gob ?_
  exact Fin.r0
theorem gLook {σ : St} {out : List Grp} (hT : σ.T = gatT out) : Look σ (.vec 0 2 out.length 0 out.length) (.slice (out.map Grp.enc) .no) := by
  have h0 : σ.T[0]? = some (.vec (gEncs 0 out)) := by rw [hT]; rfl
  have key : ∀ (l : List Grp) (i : Nat), (∀ (j : Nat) (h : j < l.length), σ.T[i + j + 1]? = some (.vec (l[j].sels.map Sl.enc))) → LookL σ (gEncs i l) (l.map Grp.enc) := by
    intro l
    induction l with
    | nil => intro i _; exact LookL.nil
    | cons g l ih =>
      intro i h
      refine LookL.cons (Look.agg (LookL.cons (Look.closed rfl) (LookL.cons ?_ LookL.nil))) (ih (i + 1) fun j hj => ?_)
      · have h1 := h 0 (by simp)
        have h2 := Look.vec (z := 7) (lo := 0) (hi := g.sels.length) (n := g.sels.length) h1 (by simp) (LookL.closed (Sl.closedL _))
        rw [List.drop_zero, List.take_of_length_le (by simp)] at h2
        exact h2
      · have h1 := h (j + 1) (by simpa using hj)
        rw [show i + (j + 1) + 1 = i + 1 + j + 1 by omega] at h1
        exact h1
  have h2 := Look.vec (z := 2) (lo := 0) (hi := out.length) (n := out.length) h0 (gEncs_len 0 out) (key out 0 fun j hj => by rw [hT, gatT, Nat.zero_add, List.getElem?_cons_succ]; simp [hj])
  rw [List.drop_zero, List.take_of_length_le (by simp)] at h2
  exact h2
end Go.Proofs.YtmfmdehfbpkgdaaGreatDoor
namespace Go.Proofs.YtmfmdehfbpkgdaaGreatDoor
open Go Go.Av
attribute [local irreducible] HCode AOps PFn AFn Av.Step TStep
theorem get_set1 {a w : Tok} {S : List Tok} {j : Nat} (h : j < S.length) : (a :: S.set j w)[j + 1]? = some w := by
  rw [List.getElem?_cons_succ, List.getElem?_set_self h]
theorem set_last {α : Type} (l : List α) (x y : α) {n : Nat} (h : l.length = n) : (l ++ [x]).set n y = l ++ [y] := by
  subst h; simp
theorem get_last {α : Type} (l : List α) (x : α) {n : Nat} (h : l.length = n) : (l ++ [x])[n]? = some x := by
  subst h; simp
theorem gTail (s : Sch) (d : Dcm) (env : List Mem) (typ : Str) (met : List Str) (out1 : List Grp) (j : Nat) (hj : j < out1.length) (x : Sl) (hl : out1[j].sels.length ≤ 68719476736) :
    HCode Tryz.prog Tryz.f138.ntmps [] (tailOf 4 (bodyOf Tryz.f138))
      (fin [] (fun e σ' => e = .ret (.tup []) ∧ σ'.B.take 2 = gatB s d env typ met out1.length ∧ σ'.T = gatT (out1.set j ⟨out1[j].key, out1[j].sels ++ [x]⟩)))
      [(3, .rptr x.enc), (5, .int .i64 j), (0, .ptr 1 0)] ⟨gatB s d env typ met out1.length ++ [.cells [.str (keyS x)]], gatT out1⟩ := by
  have hy : (gEncs 0 out1)[j]? = some (gEnc j out1[j]) := by rw [gEncs_get 0 out1 j hj, Nat.zero_add]
  have hn := gEncs_len 0 out1
  have hS : (gatT out1)[j + 1]? = some (.vec (out1[j].sels.map Sl.enc)) := by rw [gatT, List.getElem?_cons_succ]; simp [hj]
  have hSl : j < (out1.map fun g => Tok.vec (g.sels.map Sl.enc)).length := by simpa using hj
  have hTl : j + 1 < (gatT out1).length := by rw [gatT_len]; omega
  have hml : (out1[j].sels.map Sl.enc).length = out1[j].sels.length := List.length_map _
  have hjj : (j : Int) = (j : Nat) := rfl
  have fine : gatT (out1.set j ⟨out1[j].key, out1[j].sels ++ [x]⟩) = .vec ((gEncs 0 out1).set j (gEnc j ⟨out1[j].key, out1[j].sels ++ [x]⟩)) :: (out1.map fun g => Tok.vec (g.sels.map Sl.enc)).set j (.vec (out1[j].sels.map Sl.enc ++ [x.enc])) := by
    rw [gatT, ← gEncs_set, List.map_set, Nat.zero_add, List.map_append]; rfl
  rw [fine]
  generalize out1[j] = g at *
  unfold gatB gatCs
  repeat' first | refine HCode.coin rfl rfl rfl rfl rfl (by decide) (by decide) (by decide +kernel) (fun b => ?_) | refine A.nlP rfl ?_ | refine .s1 ?_ | (refine .q ?_ ?_ <;> intro hc) | refine A.vindex rfl rfl rfl rfl rfl rfl rfl (by omega) (Nat.zero_add _) ?_ | refine A.vload rfl rfl rfl hn hy rfl ?_ | refine A.vlen rfl rfl rfl rfl ?_ | refine A.vappend rfl rfl rfl rfl rfl rfl rfl hS hml rfl rfl (by dsimp only [List.length_cons, List.length_nil]; omega) (by dsimp only [List.length_cons, List.length_nil]; omega) (setTK_eq hTl) ?_ | refine A.vstore (agg := true) rfl rfl rfl rfl rfl hn hy rfl rfl rfl rfl ?_ | refine A.vindex (j := g.sels.length) rfl rfl rfl rfl rfl rfl rfl (by dsimp only [List.length_cons, List.length_nil]; omega) (Nat.zero_add _) ?_ | refine A.vstore (agg := true) rfl rfl rfl rfl (get_set1 hSl) (by rw [List.length_append, hml]) (get_last _ _ hml) rfl rfl rfl (setTK_eq (by rw [List.length_cons, List.length_set]; omega)) ?_ | fail
  · refine ⟨rfl, rfl, ?_⟩
    show _ :: List.set (List.set _ j _) j _ = _
    rw [List.set_set, set_last _ _ _ hml]
    simp only [gEnc, List.length_append]
    rfl
  · refine ⟨rfl, rfl, ?_⟩
    simp only [gEnc, List.length_append]
    rfl
theorem addK_len (x : Sl) : ∀ l : List Grp, l.length ≤ (addK x l).length
  | [] => by simp [addK]
  | g :: l => by
    rw [addK]
    split
    · simp
    · have := addK_len x l
      simp only [List.length_cons]; omega
theorem gField (s : Sch) (d : Dcm) (env : List Mem) (typ : Str) (m : Gs) (x : Sl) (hl : m.out.length ≤ 68719476736) (hs : ∀ g ∈ m.out, g.sels.length ≤ 68719476736) :
    AFn Tryz.prog 138 [.ptr 1 0, x.enc] (gatS s d env typ m) (fun e σ' => e = .ret (.tup []) ∧ σ' = gatS s d env typ ⟨m.met, addK x m.out⟩) := by
  obtain ⟨met, out⟩ := m
  simp only at hl hs
  have hk := mKey x
  have hi := sIndexFGrp out 172 [.rptr (.str (keyS x))] (fun g => g.key == keyS x) (by omega) rfl (fun g _ => colField1 (keyS x) g)
  have hn := gEncs_len 0 out
  refine AFn.dropped (AFn.mono (post := fun e σ' => e = .ret (.tup []) ∧ σ'.B.take 2 = gatB s d env typ met (addK x out).length ∧ σ'.T = gatT (addK x out)) ?_ fun e σ1 hh => ?_)
  case refine_2 =>
    have hal := addK_len x out
    refine ⟨.tup [], 2, σ1.T.length, hh.1, Nat.le_refl _, ?_, rfl, ?_, ?_, rfl, ?_⟩
    · rw [hh.2.2, gatT_len]
      show (gatT out).length ≤ _
      rw [gatT_len]; omega
    · rw [hh.2.1, hh.2.2, gatT_len]
      exact gatB_low _ _ _ _ _ _ _ (by omega)
    · rw [List.take_length, hh.2.2]
      exact gatT_low _ _
    · rw [List.take_length, hh.2.1, hh.2.2]; rfl
  have key : ∀ (out1 : List Grp) (j : Nat) (hj : j < out1.length) (hl1 : out1[j].sels.length ≤ 68719476736) (e1 : addK x out = out1.set j ⟨out1[j].key, out1[j].sels ++ [x]⟩),
      HCode Tryz.prog Tryz.f138.ntmps [] (tailOf 4 (bodyOf Tryz.f138))
        (fin [] (fun e σ' => e = .ret (.tup []) ∧ σ'.B.take 2 = gatB s d env typ met (addK x out).length ∧ σ'.T = gatT (addK x out)))
        [(3, .rptr x.enc), (5, .int .i64 j), (0, .ptr 1 0)] ⟨gatB s d env typ met out1.length ++ [.cells [.str (keyS x)]], gatT out1⟩ := fun out1 j hj hl1 e1 => by
    have h := gTail s d env typ met out1 j hj x hl1
    rw [← e1] at h
    have h2 : out1.length = (addK x out).length := by rw [e1, List.length_set]
    rw [← h2]
    exact h
  rcases idxFrom_spec (fun g : Grp => g.key == keyS x) out 0 with ⟨q1, q2⟩ | ⟨j, hj, q1, q2⟩
  · rw [q1] at hi
    have d1 : decide ((-1 : Int) < 0) = true := rfl
    have hg : (out ++ [Grp.mk (keyS x) []])[out.length]'(by simp) = Grp.mk (keyS x) [] := by simp
    have kn := key (out ++ [⟨keyS x, []⟩]) out.length (by simp) (by rw [hg]; simp) (by rw [hg, addK_none q2, set_last _ _ _ rfl]; rfl)
    have hT' : setTK 0 (.vec ((gEncs 0 out ++ [AV.agg [.str (keyS x), .slice [] .nil]]).set out.length (.agg ([AV.str (keyS x), .slice [] .nil].set 1 (.vec (out.length + 1) 7 0 0 0)))))
        ((Tok.vec (gEncs 0 out ++ [AV.agg [.str (keyS x), .slice [] .nil]]) :: out.map fun g => Tok.vec (g.sels.map Sl.enc)) ++ [.vec []]) some = some (gatT (out ++ [⟨keyS x, []⟩])) := by
      rw [set_last _ _ _ hn, gatT, gEncs_app, Nat.zero_add, List.map_append]; rfl
    have kt := HCode.turn (s := [(3, .rptr x.enc), (5, .int .i64 out.length), (0, .ptr 1 0)]) 5 rfl (Turn.inner (z0 := .int .i64 out.length) (σ := ⟨gatB s d env typ met (out ++ [Grp.mk (keyS x) []]).length ++ [.cells [.str (keyS x)]], Tok.vec (gEncs 0 out ++ [AV.agg [.str (keyS x), .slice [] .nil]]) :: out.map fun g => Tok.vec (g.sels.map Sl.enc)⟩)
      (k := 0) (i := out.length) (c := 1) (y := .vec (out.length + 1) 7 0 0 0) rfl (get_last _ _ hn) rfl (Turn.vadopt rfl (by rw [smallLen_eq]; simp) (snocK_eq _ _ _)) rfl hT') (HCode.weaken kn (s' := (5, .int .i64 out.length) :: [(3, .rptr x.enc), (5, .int .i64 out.length), (0, .ptr 1 0)]) (by exact ⟨rfl, rfl, rfl, trivial⟩))
    rw [List.length_append] at kt
    refine AFn.en [] Tryz.func138 ?_
    unfold gatS gatB gatCs
    repeat' first | refine .br ?_ | (refine HCode.weaken kt ?_; exact ⟨rfl, rfl, rfl, trivial⟩) | refine A.nlP rfl ?_ | refine .s1 ?_ | (refine .q ?_ ?_ <;> intro hc) | refine A.callB rfl hi (LookL.cons (gLook rfl) (LookL.cons (Look.fn (LookL.cons (Look.ptr1 rfl (Look.closed rfl) rfl) LookL.nil)) LookL.nil)) rfl ?_ | refine .vl ?_ | refine A.vlen rfl rfl rfl rfl ?_ | refine A.vappend rfl rfl rfl rfl rfl rfl rfl rfl hn rfl rfl (by dsimp only [List.length_cons, List.length_nil]; omega) (by dsimp only [List.length_cons, List.length_nil]; omega) rfl ?_ | fail
  · rw [q1, Nat.zero_add] at hi
    have d1 : decide ((j : Int) < 0) = false := decide_eq_false (by omega)
    have kn := key out j hj (hs _ (List.getElem_mem hj)) (addK_some hj (by rw [q1, Nat.zero_add]))
    refine AFn.en [] Tryz.func138 ?_
    unfold gatS gatB gatCs
    repeat' first | refine .br ?_ | (refine HCode.weaken kn ?_; exact ⟨rfl, rfl, rfl, trivial⟩) | refine A.nlP rfl ?_ | refine .s1 ?_ | (refine .q ?_ ?_ <;> intro hc) | refine A.callB rfl hi (LookL.cons (gLook rfl) (LookL.cons (Look.fn (LookL.cons (Look.ptr1 rfl (Look.closed rfl) rfl) LookL.nil)) LookL.nil)) rfl ?_ | fail
end Go.Proofs.YtmfmdehfbpkgdaaGreatDoor
