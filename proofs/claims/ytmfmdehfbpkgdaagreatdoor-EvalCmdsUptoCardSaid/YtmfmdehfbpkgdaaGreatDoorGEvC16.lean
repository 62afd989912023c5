/-
  Contracts and plain facts for a law, joined.
-/
import Derived.Test.YtmfmdehfbpkgdaaGreatDoorGEvC2
import Derived.Test.YtmfmdehfbpkgdaaGreatDoorGEvC14
import Derived.Test.YtmfmdehfbpkgdaaGreatDoorGEvC15
import Derived.Test.YtmfmdehfbpkgdaaGreatDoorGEvC8
set_option maxRecDepth 100000
set_option maxHeartbeats 16000000
set_option linter.unusedVariables false
set_option linter.unusedSimpArgs false
set_option linter.unusedSectionVars false
namespace Go.Proofs.YtmfmdehfbpkgdaaGreatDoor
open Go Go.Av
attribute [local irreducible] HCode AOps PFn AFn Av.Step TStep
theorem rright9 (s : Sch) (hs : s.size ≤ 1048576) : ∀ N : Nat, N ≤ 1048576 → ∀ v : Val, v.size ≤ N → ∀ j : Nat, ∀ t : Typ, t.lists.toNat = j → t.name.length ≤ 68719476736 → ∀ w : Bool,
    PFn Tryz.prog 167 [s.enc, t.enc, v.enc, .bool (!w)] (.bool (fitsV s v t w))
  | 0, _, v, hv => absurd hv (by have := v.size_pos; omega)
  | N + 1, hN, v, hv => by
    have ih := rright9 s hs N (by omega)
    have hll := v.l_len
    have hml := v.m_len
    intro j
    induction j with
    | zero =>
      intro t hj ht w
      have hr := rRightType t (by omega)
      have hit := rItem t (by omega)
      unfold itemR at hit
      refine AFn.plain rfl (by simp [AV.closed, AV.closedL, Sch.closed, Val.closed, Typ.closed]) (AFn.en [8] Tryz.func167 ?_)
      cases c : rightT t with
      | false =>
        rw [c] at hr
        rw [fitsV_wrong c]
        refine .gob ?_
        exact Fin.r0
      | true =>
        have hl0 : t.lists = 0 := by have := (rightT_iff.1 c).2.1; omega
        rw [c] at hr
        rw [if_neg (fun h => h.2 hl0)] at hit
        by_cases k8 : v.kind = 8
        · have q8 : (v.kind == 8) = true := by simp [k8]
          rw [fitsV_eq, if_pos k8, c]
          refine .gob ?_
          exact Fin.r0
        · have q8 : (v.kind == 8) = false := by simp [k8]
          by_cases k0 : v.kind = 0
          · have q0 : (v.kind == 0) = true := by simp [k0]
            have h0 := (rightT_iff.1 c).2.2.2.1
            have h5 := musts_lt c
            rw [fits_null k0]
            repeat' first | refine .br ?_ | refine .s1 ?_ | (refine .q ?_ ?_ <;> intro hc) | refine A.band (m := t.musts.toNat) (n := 1) rfl rfl (by omega) rfl (by omega) (by decide) (and1 _) ?_ | fail
            refine Fin.rb ?_
            unfold isT; rw [c, Bool.true_and, Bool.true_and, Bool.eq_iff_iff, beq_iff_eq, Bool.not_eq_true', decide_eq_false_iff_not]; omega
          · have q0 : (v.kind == 0) = false := by simp [k0]
            rw [fitsV_bare k8 k0 c hl0]
            cases hsc : scalarB t.name with
            | true =>
              rw [bareV_scal hsc]
              unfold scalFit
              repeat' first | refine .br ?_ | refine .s1 ?_ | (refine .q ?_ ?_ <;> intro hc) | fail
              all_goals first | (refine Fin.rb ?_; simp only [sInt, sString, sBoolean, sID]; first | (simp_all; done) | (simp_all <;> omega)) | (exfalso; simp_all [scalarB, sInt, sString, sBoolean, sID]; done)
            | false =>
              have hsc' : (t.name == [73, 110, 116]) = false ∧ (t.name == [83, 116, 114, 105, 110, 103]) = false ∧ (t.name == [66, 111, 111, 108, 101, 97, 110]) = false ∧ (t.name == [73, 68]) = false := by
                unfold scalarB sInt sString sBoolean sID at hsc
                simp only [Bool.or_eq_false_iff] at hsc
                exact ⟨hsc.1.1.1, hsc.1.1.2, hsc.1.2, hsc.2⟩
              obtain ⟨s1, s2, s3, s4⟩ := hsc'
              have hf := rFind9 s t.name hs
              have hsz := findR_size (name := t.name) (s := s) (by omega)
              have hin := rInput9 s (findR s t.name).1.params v.m hs hsz.1 hsz.2.2.2.2 (by omega) (fun x hx u hu => ih x.v (by
                obtain ⟨k, hk, rfl⟩ := List.getElem_of_mem hx
                have := Val.size_m hk; omega) _ u rfl hu false)
              have hhas := rHas (findR s t.name).1.parts v.s (by omega)
              rw [← v.mv_eq] at hin
              have hsf : scalFit t.name v.kind v.n = false := by
                unfold scalFit sInt sString sBoolean sID
                rw [if_neg (by simpa using s1), if_neg (by simpa using s2), if_neg (by simpa using s3), if_neg (by simpa using s4)]
              unfold bareV bareB
              cases hfo : findO s t.name with
              | none =>
                have e : findR s t.name = (zeroD, false) := by rw [findR, hfo]
                rw [e] at hf
                repeat' first | refine .br ?_ | refine .s1 ?_ | (refine .q ?_ ?_ <;> intro hc) | fail
                exact Fin.r0
              | some d =>
                have e : findR s t.name = (d, true) := by rw [findR, hfo]
                rw [e] at hf hin hhas
                simp only at hf hin hhas ⊢
                rw [hsf]
                by_cases k4 : d.kind = 4
                · have q4 : (d.kind == 4) = true := by rw [k4]; rfl
                  rw [if_pos k4]
                  repeat' first | refine .br ?_ | refine .s1 ?_ | (refine .q ?_ ?_ <;> intro hc) | fail
                  all_goals
                    refine Fin.rb ?_
                    simp_all
                · have q4 : (d.kind == 4) = false := by simp [k4]
                  rw [if_neg k4]
                  by_cases k5 : d.kind = 5
                  · have q5 : (d.kind == 5) = true := by rw [k5]; rfl
                    rw [if_pos k5]
                    repeat' first | refine .br ?_ | refine .s1 ?_ | (refine .q ?_ ?_ <;> intro hc) | fail
                    all_goals
                      refine Fin.rb ?_
                      simp_all
                  · have q5 : (d.kind == 5) = false := by simp [k5]
                    rw [if_neg k5, ite_self]
                    refine .gob ?_
                    exact Fin.r0
    | succ j ihj =>
      intro t hj ht w
      have hr := rRightType t (by omega)
      have hit := rItem t (by omega)
      have hl0 : t.lists ≠ 0 := by omega
      have hdown := ihj (itemT t) (by show (t.lists - 1).toNat = j; omega) ht false
      unfold itemR at hit
      refine AFn.plain rfl (by simp [AV.closed, AV.closedL, Sch.closed, Val.closed, Typ.closed]) (AFn.en [8] Tryz.func167 ?_)
      cases c : rightT t with
      | false =>
        rw [c] at hr
        rw [fitsV_wrong c]
        refine .gob ?_
        exact Fin.r0
      | true =>
        rw [c] at hr
        rw [if_pos ⟨c, hl0⟩] at hit
        by_cases k8 : v.kind = 8
        · have q8 : (v.kind == 8) = true := by simp [k8]
          rw [fitsV_eq, if_pos k8, c]
          refine .gob ?_
          exact Fin.r0
        · have q8 : (v.kind == 8) = false := by simp [k8]
          by_cases k0 : v.kind = 0
          · have q0 : (v.kind == 0) = true := by simp [k0]
            have h0 := (rightT_iff.1 c).2.2.2.1
            have h5 := musts_lt c
            rw [fits_null k0]
            repeat' first | refine .br ?_ | refine .s1 ?_ | (refine .q ?_ ?_ <;> intro hc) | refine A.band (m := t.musts.toNat) (n := 1) rfl rfl (by omega) rfl (by omega) (by decide) (and1 _) ?_ | fail
            refine Fin.rb ?_
            unfold isT; rw [c, Bool.true_and, Bool.true_and, Bool.eq_iff_iff, beq_iff_eq, Bool.not_eq_true', decide_eq_false_iff_not]; omega
          · have q0 : (v.kind == 0) = false := by simp [k0]
            by_cases k6 : v.kind = 6
            · have q6 : (v.kind != 6) = false := by simp [k6]
              rw [fitsV_list k6 c hl0]
              refine .gob ?_
              refine HCode.forK v.l.length (fun k => [(11, .int .i64 k), (6, .rptr v.enc), (4, .rptr s.enc), (9, .ptr 0 0)])
                (fun _ => ⟨[.cells [.str t.name, .int .i64 (t.lists - 1), .int .i64 (t.musts / 2)]], []⟩) (fun k => fitsL s v.l (itemT t) = fitsL s (v.l.drop k) (itemT t)) ⟨rfl, rfl, rfl, rfl, trivial⟩ rfl rfl fun k hk hp => ?_
              by_cases h1 : k < v.l.length
              · have d1 : decide ((k : Int) < (v.lv.length : Int)) = true := by rw [v.lv_len]; simp [h1]
                have x1 := Val.lv_get h1
                have hc1 := ih v.l[k] (by have := Val.size_l h1; omega) _ (itemT t) rfl ht true
                have hd := fitsL_drop (s := s) (t := itemT t) h1
                repeat' first | refine .s1 ?_ | (refine .q ?_ ?_ <;> intro hc) | fail
                all_goals first | (refine Fin.rb ?_; rw [hp, hd]; simp_all; done) | (exact ⟨h1, ⟨rfl, rfl, rfl, rfl, trivial⟩, by simp [belowS, AV.low], rfl, rfl, by rw [hp, hd]; simp_all⟩)
              · have d1 : decide ((k : Int) < (v.lv.length : Int)) = false := by rw [v.lv_len]; simp; omega
                refine .go ?_
                refine Fin.rb ?_
                rw [hp, List.drop_eq_nil_of_le (by omega), fitsL]
            · have q6 : (v.kind != 6) = true := by simp [k6]
              rw [fitsV_down k8 k0 k6 c hl0]
              cases w with
              | true =>
                refine .gob ?_
                exact Fin.r0
              | false =>
                refine .gob ?_
                exact Fin.r0
theorem rRight9 (s : Sch) (t : Typ) (v : Val) (hs : s.size ≤ 1048576) (ht : t.name.length ≤ 68719476736) (hv : v.size ≤ 1048576) : PFn Tryz.prog 131 [s.enc, t.enc, v.enc] (.bool (litR s t v)) := by
  have hr := rRightType t (by omega)
  have hg := rGoodValue 1048576 (Nat.le_refl _) v hv
  have hf := rright9 s hs 1048576 (Nat.le_refl _) v hv _ t rfl ht false
  refine AFn.plain rfl (by simp [AV.closed, AV.closedL, Sch.closed, Val.closed, Typ.closed]) (AFn.en [6] Tryz.func131 ?_)
  unfold litR
  cases c : rightT t with
  | false =>
    rw [c] at hr
    rw [fitsV_wrong c, Bool.and_false]
    repeat' first | refine .br ?_ | refine .s1 ?_ | (refine .q ?_ ?_ <;> intro hc) | fail
    all_goals exact Fin.r0
  | true =>
    rw [c] at hr
    repeat' first | refine .br ?_ | refine .s1 ?_ | (refine .q ?_ ?_ <;> intro hc) | fail
    all_goals
      refine Fin.rb ?_
      simp_all
theorem rField9 (s : Sch) (typ name : Str) (hs : s.size ≤ 1048576) : PFn Tryz.prog 92 [s.enc, .str typ, .str name] (.tup [(fieldR s typ name).1.enc, .bool (fieldR s typ name).2]) := by
  have hC := rComposite9 s typ hs
  have hF := rFind9 s typ hs
  have hfs := (findR_size (name := typ) (show s.size ≤ 68719476736 by omega)).2.2.2.1
  have e1 := @fieldR_tn s typ name
  have e2 := @fieldR_no s typ name
  have e3 := @fieldR_in s typ name
  refine AFn.plain (by simp [AV.closed, AV.closedL, Fld.closed]) (by simp [AV.closed, AV.closedL, Sch.closed]) (AFn.eR [.cell 6 30, .tmp 7] Tryz.func92 ?_)
  by_cases c : name = sTypename ∧ compB s typ = true
  · obtain ⟨c1, c2⟩ := c
    rw [e1 c1 c2]
    subst c1
    rw [c2] at hC
    have q1 : (sTypename == [95, 95, 116, 121, 112, 101, 110, 97, 109, 101]) = true := by decide
    refine .gob ?_
    refine FinR.ret1 rfl ?_
    exact Weak.tup (WeakL.cons weak_fld0 (WeakL.refl _))
  have hn : (name == [95, 95, 116, 121, 112, 101, 110, 97, 109, 101]) = true → compB s typ = false := fun hx => by
    have : name = sTypename := by unfold sTypename; simpa using hx
    cases hcc : compB s typ with
    | false => rfl
    | true => exact absurd ⟨this, hcc⟩ c
  by_cases k : (findR s typ).1.kind = 1 ∨ (findR s typ).1.kind = 2
  · rw [e3 c k]
    have kk : ((findR s typ).1.kind != 1) = true → ((findR s typ).1.kind != 2) = false := fun hx => by
      rcases k with k | k
      · rw [k] at hx; cases hx
      · rw [k]; rfl
    generalize findR s typ = r at *
    obtain ⟨d, ok⟩ := r
    dsimp only at *
    cases q0 : name == [95, 95, 116, 121, 112, 101, 110, 97, 109, 101]
    all_goals try rw [hn q0] at hC
    all_goals cases q1 : d.kind != 1
    all_goals try have q2 := kk q1
    all_goals
      refine .gob ?_
      refine HCode.forK d.fields.length (fun k => [(10, .int .i64 k), (2, .str name), (6, .ptr 0 0), (8, .ptr 1 0)])
        (fun _ => ⟨[.cells [.str [], .slice [] .nil, .str [], .int .i64 0, .int .i64 0, .slice [] .nil], .cells [.int .i64 d.kind, .str d.name, .slice (d.faces.map AV.str) .no, .slice (d.fields.map Fld.enc) .no, .slice (d.parts.map AV.str) .no, .slice (d.params.map Par.enc) .no]], []⟩)
        (fun k => fldO d.fields name = (d.fields.drop k).find? (fun f => f.name == name)) ⟨rfl, rfl, rfl, rfl, trivial⟩ rfl rfl fun k hk hp => ?_
      by_cases h1 : k < d.fields.length
      · have d1 : decide ((k : Int) < (d.fields.length : Int)) = true := by simp [h1]
        have x1 := map_get' (f := Fld.enc) h1
        have hd := find_drop (p := fun f : Fld => f.name == name) h1
        cases c1 : d.fields[k].name == name
        · refine .go ?_
          exact ⟨h1, ⟨rfl, rfl, rfl, rfl, trivial⟩, by simp [belowS, AV.low], by simp [belowB, belowT, Ob.low, Tok.low, AV.lowL, AV.low], rfl, by rw [hp, hd, if_neg (by simp [c1])]⟩
        · refine .go ?_
          refine FinR.ret1 rfl (Weak.eq ?_)
          rw [hp, hd, if_pos c1]; rfl
      · have d1 : decide ((k : Int) < (d.fields.length : Int)) = false := by simp; omega
        refine .go ?_
        refine FinR.ret1 rfl ?_
        rw [hp, List.drop_eq_nil_of_le (by omega)]
        exact Weak.tup (WeakL.cons weak_fld0 (WeakL.refl _))
  · rw [e2 c k]
    have k1 : ((findR s typ).1.kind != 1) = true := by rw [bne_iff_ne]; exact fun x => k (.inl x)
    have k2 : ((findR s typ).1.kind != 2) = true := by rw [bne_iff_ne]; exact fun x => k (.inr x)
    cases q0 : name == [95, 95, 116, 121, 112, 101, 110, 97, 109, 101]
    · refine .gob ?_
      refine FinR.ret1 rfl ?_
      exact Weak.tup (WeakL.cons weak_fld0 (WeakL.refl _))
    · rw [hn q0] at hC
      refine .gob ?_
      refine FinR.ret1 rfl ?_
      exact Weak.tup (WeakL.cons weak_fld0 (WeakL.refl _))
theorem rPossible9 (s : Sch) (name : Str) (hs : s.size ≤ 1048576) : PFn Tryz.prog 54 [s.enc, .str name] (.slice ((possB s name).map AV.str) .no) := by
  have hf := rFind9 s name hs
  have hz := findR_size (name := name) (show s.size ≤ 68719476736 by omega)
  have hl := s.len
  refine AFn.plain (str_closedL _) (by simp [AV.closed, AV.closedL, Sch.closed]) (AFn.en [4] Tryz.func54 ?_)
  unfold possB
  unfold findR at hf hz
  cases hfo : findO s name with
  | none =>
    rw [hfo] at hf
    refine .gob ?_
    exact Fin.ret1 rfl (Weak.no (WeakL.refl _))
  | some d =>
    rw [hfo] at hf hz
    simp only at hf hz ⊢
    by_cases k1 : d.kind = 1
    · have q1 : (d.kind == 1) = true := by simp [k1]
      rw [if_pos k1]
      repeat' first | refine HCode.adopt 7 false 1 rfl rfl rfl rfl rfl rfl ?_ | refine .br ?_ | refine .s1 ?_ | (refine .q ?_ ?_ <;> intro hc) | refine A.append (n := 0) rfl rfl rfl rfl rfl rfl rfl rfl rfl rfl (by dsimp only [List.length_cons, List.length_nil]; omega) (by dsimp only [List.length_cons, List.length_nil]; omega) rfl ?_ | fail
      exact Fin.ret1 rfl (Weak.no (WeakL.refl _))
    · have q1 : (d.kind == 1) = false := by simp [k1]
      rw [if_neg k1]
      by_cases k2 : d.kind = 2
      · have q2 : (d.kind == 2) = true := by simp [k2]
        rw [if_pos k2]
        refine .gob ?_
        refine HCode.adopt 7 false 1 rfl rfl rfl rfl rfl rfl ?_
        refine HCode.forK s.defs.length (fun k => [(8, .int .i64 k), (1, .str name), (2, .rptr s.enc), (7, .slice (((s.defs.take k).foldl (fun l x => possF l x name) []).map AV.str) (.own 0 1))])
          (fun k => ⟨[.cells [.int .i64 d.kind, .str d.name, .slice (d.faces.map AV.str) .no, .slice (d.fields.map Fld.enc) .no, .slice (d.parts.map AV.str) .no, .slice (d.params.map Par.enc) .no]], [.len ((s.defs.take k).foldl (fun l x => possF l x name) []).length]⟩) (fun _ => True) ⟨rfl, rfl, rfl, rfl, trivial⟩ rfl trivial fun k hk _ => ?_
        by_cases h1 : k < s.defs.length
        · have d1 : decide ((k : Int) < (s.defs.length : Int)) = true := by simp [h1]
          have x1 := map_get' (f := Dfn.enc) h1
          have hdz := Sch.dfn (List.getElem_mem h1)
          have hdl := s.defs[k].lens
          have hct := rHas s.defs[k].faces name (by omega)
          have hst := fold_take (f := fun l x => possF l x name) (a := []) h1
          have hpl := possF_len name (s.defs.take k)
          rw [List.length_take] at hpl
          generalize (s.defs.take k).foldl (fun l x => possF l x name) [] = xs at hst hpl
          have hcx := rHas xs s.defs[k].name (by omega)
          by_cases j1 : s.defs[k].kind = 1
          · have w1 : (s.defs[k].kind == 1) = true := by simp [j1]
            by_cases c : name ∈ s.defs[k].faces
            · rw [decide_eq_true c] at hct
              replace hst := hst.trans (show possF xs s.defs[k] name = addNew xs s.defs[k].name by unfold possF; rw [if_pos ⟨j1, c⟩])
              unfold addNew at hst
              by_cases c2 : s.defs[k].name ∈ xs
              · rw [decide_eq_true c2] at hcx
                rw [if_pos c2] at hst
                refine .go ?_
                exact ⟨h1, ⟨rfl, rfl, rfl, by rw [hst]; rfl, trivial⟩, by simp [-List.map_take, belowS, AV.low, AV.low_of_closed, Sch.closed], by simp [belowB, belowT, Ob.low, Tok.low, AV.lowL, AV.low], by rw [hst]; rfl, trivial⟩
              · rw [decide_eq_false c2] at hcx
                rw [if_neg c2] at hst
                repeat' first | refine .s1 ?_ | (refine .q ?_ ?_ <;> intro hc) | refine A.append (n := xs.length) rfl rfl rfl rfl rfl rfl rfl rfl (List.length_map ..) rfl (by dsimp only [List.length_cons, List.length_nil]; omega) (by dsimp only [List.length_cons, List.length_nil]; omega) rfl ?_ | fail
                exact ⟨h1, ⟨rfl, rfl, rfl, by rw [hst, List.map_append]; rfl, trivial⟩, by simp [-List.map_take, belowS, AV.low, AV.low_of_closed, Sch.closed], by simp [belowB, belowT, Ob.low, Tok.low, AV.lowL, AV.low], by rw [hst, List.length_append]; rfl, trivial⟩
            · rw [decide_eq_false c] at hct
              replace hst := hst.trans (show possF xs s.defs[k] name = xs by unfold possF; rw [if_neg (fun h => c h.2)])
              refine .go ?_
              exact ⟨h1, ⟨rfl, rfl, rfl, by rw [hst]; rfl, trivial⟩, by simp [-List.map_take, belowS, AV.low, AV.low_of_closed, Sch.closed], by simp [belowB, belowT, Ob.low, Tok.low, AV.lowL, AV.low], by rw [hst]; rfl, trivial⟩
          · have w1 : (s.defs[k].kind == 1) = false := by simp [j1]
            replace hst := hst.trans (show possF xs s.defs[k] name = xs by unfold possF; rw [if_neg (fun h => j1 h.1)])
            refine .go ?_
            exact ⟨h1, ⟨rfl, rfl, rfl, by rw [hst]; rfl, trivial⟩, by simp [-List.map_take, belowS, AV.low, AV.low_of_closed, Sch.closed], by simp [belowB, belowT, Ob.low, Tok.low, AV.lowL, AV.low], by rw [hst]; rfl, trivial⟩
        · have d1 : decide ((k : Int) < (s.defs.length : Int)) = false := by simp; omega
          obtain rfl : k = s.defs.length := by omega
          rw [List.take_length]
          refine .go ?_
          exact Fin.ret1 rfl (Weak.no (WeakL.refl _))
      · have q2 : (d.kind == 2) = false := by simp [k2]
        rw [if_neg k2]
        by_cases k3 : d.kind = 3
        · have q3 : (d.kind == 3) = true := by simp [k3]
          rw [if_pos k3]
          refine .gob ?_
          refine HCode.adopt 7 false 1 rfl rfl rfl rfl rfl rfl ?_
          refine HCode.forK d.parts.length (fun k => [(10, .int .i64 k), (2, .rptr s.enc), (5, .ptr 0 0), (7, .slice (((d.parts.take k).foldl (possU s) []).map AV.str) (.own 0 1))])
            (fun k => ⟨[.cells [.int .i64 d.kind, .str d.name, .slice (d.faces.map AV.str) .no, .slice (d.fields.map Fld.enc) .no, .slice (d.parts.map AV.str) .no, .slice (d.params.map Par.enc) .no]], [.len ((d.parts.take k).foldl (possU s) []).length]⟩) (fun _ => True) ⟨rfl, rfl, rfl, rfl, trivial⟩ rfl trivial fun k hk _ => ?_
          by_cases h1 : k < d.parts.length
          · have d1 : decide ((k : Int) < (d.parts.length : Int)) = true := by simp [h1]
            have x1 := map_get' (f := AV.str) h1
            have hkd := rObject9 s d.parts[k] hs
            have hst := fold_take (f := possU s) (a := []) h1
            have hpl := possU_len s (d.parts.take k)
            rw [List.length_take] at hpl
            generalize (d.parts.take k).foldl (possU s) [] = xs at hst hpl
            have hcx := rHas xs d.parts[k] (by omega)
            cases c : kindB s d.parts[k] [1] with
            | true =>
              rw [c] at hkd
              replace hst := hst.trans (show possU s xs d.parts[k] = addNew xs d.parts[k] by unfold possU; rw [if_pos c])
              unfold addNew at hst
              by_cases c2 : d.parts[k] ∈ xs
              · rw [decide_eq_true c2] at hcx
                rw [if_pos c2] at hst
                refine .go ?_
                exact ⟨h1, ⟨rfl, rfl, rfl, by rw [hst]; rfl, trivial⟩, by simp [-List.map_take, belowS, AV.low, AV.low_of_closed, Sch.closed], by simp [belowB, belowT, Ob.low, Tok.low, AV.lowL, AV.low], by rw [hst]; rfl, trivial⟩
              · rw [decide_eq_false c2] at hcx
                rw [if_neg c2] at hst
                repeat' first | refine .s1 ?_ | (refine .q ?_ ?_ <;> intro hc) | refine A.append (n := xs.length) rfl rfl rfl rfl rfl rfl rfl rfl (List.length_map ..) rfl (by dsimp only [List.length_cons, List.length_nil]; omega) (by dsimp only [List.length_cons, List.length_nil]; omega) rfl ?_ | fail
                exact ⟨h1, ⟨rfl, rfl, rfl, by rw [hst, List.map_append]; rfl, trivial⟩, by simp [-List.map_take, belowS, AV.low, AV.low_of_closed, Sch.closed], by simp [belowB, belowT, Ob.low, Tok.low, AV.lowL, AV.low], by rw [hst, List.length_append]; rfl, trivial⟩
            | false =>
              rw [c] at hkd
              replace hst := hst.trans (show possU s xs d.parts[k] = xs by unfold possU; rw [if_neg (by rw [c]; decide)])
              refine .go ?_
              exact ⟨h1, ⟨rfl, rfl, rfl, by rw [hst]; rfl, trivial⟩, by simp [-List.map_take, belowS, AV.low, AV.low_of_closed, Sch.closed], by simp [belowB, belowT, Ob.low, Tok.low, AV.lowL, AV.low], by rw [hst]; rfl, trivial⟩
          · have d1 : decide ((k : Int) < (d.parts.length : Int)) = false := by simp; omega
            obtain rfl : k = d.parts.length := by omega
            rw [List.take_length]
            refine .go ?_
            exact Fin.ret1 rfl (Weak.no (WeakL.refl _))
        · have q3 : (d.kind == 3) = false := by simp [k3]
          rw [if_neg k3]
          refine .gob ?_
          exact Fin.ret1 rfl (Weak.no (WeakL.refl _))
theorem rSubT9 (a b : Typ) (ha : a.name.length ≤ 68719476736) (hb : b.name.length ≤ 68719476736) : PFn Tryz.prog 165 [a.enc, b.enc] (.bool (subT a b)) := by
  have h1 := rRightType a (by omega)
  have h2 := rRightType b (by omega)
  refine AFn.plain rfl (by simp [AV.closed, AV.closedL, Typ.closed]) (AFn.en [4] Tryz.func165 ?_)
  unfold subT
  cases c1 : rightT a <;> rw [c1] at h1
  · repeat' first | refine .br ?_ | refine .s1 ?_ | (refine .q ?_ ?_ <;> intro hc) | refine A.call rfl h1 (WeakL.refl _) ?_ | fail
    exact Fin.r0
  cases c2 : rightT b <;> rw [c2] at h2
  · repeat' first | refine .br ?_ | refine A.call rfl h1 (WeakL.refl _) ?_ | refine A.call rfl h2 (WeakL.refl _) ?_ | refine .s1 ?_ | (refine .q ?_ ?_ <;> intro hc) | fail
    exact Fin.r0
  cases c3 : (a.name == b.name)
  · repeat' first | refine .br ?_ | refine A.call rfl h1 (WeakL.refl _) ?_ | refine A.call rfl h2 (WeakL.refl _) ?_ | refine .s1 ?_ | (refine .q ?_ ?_ <;> intro hc) | fail
    exact Fin.r0
  cases c4 : (a.lists == b.lists)
  · repeat' first | refine .br ?_ | refine A.call rfl h1 (WeakL.refl _) ?_ | refine A.call rfl h2 (WeakL.refl _) ?_ | refine .s1 ?_ | (refine .q ?_ ?_ <;> intro hc) | fail
    exact Fin.r0
  repeat' first | refine .br ?_ | refine A.call rfl h1 (WeakL.refl _) ?_ | refine A.call rfl h2 (WeakL.refl _) ?_ | refine .s1 ?_ | (refine .q ?_ ?_ <;> intro hc) | refine A.bclr (r := andNotI b.musts a.musts) rfl rfl rfl ?_ | fail
  exact Fin.r0
theorem sub_ref (s : Sch) (a b : Typ) : subB s a b = ((rightT a && subT ⟨b.name, a.lists, a.musts⟩ b) && (a.name == b.name ||
    (((findR s a.name).1.kind == 1 && decide (a.name ∈ possB s b.name)) || (((findR s a.name).1.kind == 2 && (findR s b.name).1.kind == 2) && decide (b.name ∈ (findR s a.name).1.faces))))) := by
  unfold subB kindB
  have e1 := @find_kind s a.name
  have e2 := @find_kind s b.name
  generalize findR s a.name = r at *
  generalize findR s b.name = q at *
  obtain ⟨x, o1⟩ := r
  obtain ⟨y, o2⟩ := q
  dsimp only at *
  congr 1
  congr 1
  have e3 : (decide (y.kind ∈ [2])) = (y.kind == 2) := by rw [Bool.eq_iff_iff]; simp
  rw [e3]
  cases o1
  · rw [e1 rfl]; simp
  · cases o2
    · rw [e2 rfl]; simp
    · simp [Bool.and_assoc]
theorem rSub9 (s : Sch) (a b : Typ) (hs : s.size ≤ 1048576) (ha : a.name.length ≤ 68719476736) (hb : b.name.length ≤ 68719476736) : PFn Tryz.prog 129 [s.enc, a.enc, b.enc] (.bool (subB s a b)) := by
  have h1 := rRightType a (by omega)
  have h2 := rSubT9 ⟨b.name, a.lists, a.musts⟩ b hb hb
  have h3 := rFind9 s a.name hs
  have h3b := rFind9 s b.name hs
  have hz := findR_size (name := a.name) (show s.size ≤ 68719476736 by omega)
  have h4 := rPossible9 s b.name hs
  have h5 := rHas (possB s b.name) a.name (by have := poss_len s b.name (show s.size ≤ 1048640 by omega); omega)
  have h7 := rHas (findR s a.name).1.faces b.name (by omega)
  refine AFn.plain rfl (by simp [AV.closed, AV.closedL, Sch.closed, Typ.closed]) (AFn.en [6] Tryz.func129 ?_)
  rw [sub_ref]
  generalize findR s a.name = r at *
  generalize findR s b.name = q at *
  obtain ⟨x, o1⟩ := r
  obtain ⟨y, o2⟩ := q
  dsimp only at *
  cases c1 : rightT a <;> rw [c1] at h1
  · refine .gob ?_
    exact Fin.r0
  cases c2 : subT ⟨b.name, a.lists, a.musts⟩ b <;> rw [c2] at h2
  · refine .gob ?_
    exact Fin.r0
  cases c3 : (a.name == b.name)
  · cases c4 : (x.kind == 1)
    · cases c5 : (x.kind == 2)
      · repeat' first | refine .br ?_ | refine A.call rfl h3 (WeakL.refl _) ?_ | refine A.call rfl h3b (WeakL.refl _) ?_ | refine .s1 ?_ | (refine .q ?_ ?_ <;> intro hc) | fail
        exact Fin.r0
      · cases c6 : (y.kind == 2)
        all_goals
          repeat' first | refine .br ?_ | refine A.call rfl h3 (WeakL.refl _) ?_ | refine A.call rfl h3b (WeakL.refl _) ?_ | refine A.call rfl h7 (WeakL.refl _) ?_ | refine .s1 ?_ | (refine .q ?_ ?_ <;> intro hc) | fail
          exact Fin.r0
    · have c5 : (x.kind == 2) = false := by
        have : x.kind = 1 := by simpa using c4
        rw [this]; rfl
      cases c6 : decide (a.name ∈ possB s b.name) <;> rw [c6] at h5
      all_goals
        repeat' first | refine .br ?_ | refine A.call rfl h3 (WeakL.refl _) ?_ | refine A.call rfl h3b (WeakL.refl _) ?_ | refine A.call rfl h5 (WeakL.refl _) ?_ | refine .s1 ?_ | (refine .q ?_ ?_ <;> intro hc) | fail
        all_goals
          refine Fin.rb ?_
          simp_all
  · refine .gob ?_
    exact Fin.r0
theorem anyN {α : Type} (p : α → Bool) : ∀ l : List α, (!l.any fun x => !p x) = l.all p
  | [] => rfl
  | x :: l => by rw [List.any_cons, List.all_cons, ← anyN p l]; cases p x <;> simp
theorem anyP {α : Type} (p q : α → Bool) (h : ∀ x, q x = !p x) (l : List α) : (!l.any p) = l.all q := by
  rw [show p = fun x => !q x from funext fun x => by rw [h]; simp]; exact anyN q l
theorem every_all (s : Sch) (f : Dfn → Bool) : everyB s f = s.defs.all f := anyN f _
theorem strs_le {α : Type} {g : α → Str} {size : α → Nat} (h : ∀ x, (g x).length + 1 ≤ size x) : ∀ l : List α, strsSize (l.map g) ≤ sumSize size l + 1
  | [] => by simp [strsSize, sumSize]
  | x :: l => by
    have h1 := strs_le h l
    have h2 := h x
    unfold strsSize at *
    simp only [List.map_cons, sumSize]; omega
theorem rEntries9 (s : Sch) (l : List Par) (hs : s.size ≤ 1048576) (hl : sumSize Par.size l ≤ 1048576) : PFn Tryz.prog 90 [s.enc, .slice (l.map Par.enc) .no] (.bool (entriesB s l)) := by
  have hll := sumSize_length Par.size_pos l
  refine AFn.plain rfl (by simp [AV.closed, AV.closedL, Sch.closed, Par.closedL]) (AFn.en [4] Tryz.func90 ?_)
  rw [show (entriesB s l) = l.all (fun p => entryB s p.t.name) from by unfold entriesB; exact anyN _ _]
  refine .gob ?_
  refine HCode.forK l.length (fun k => [(5, .int .i64 k), (1, .slice (l.map Par.enc) .no), (2, .rptr s.enc)]) (fun _ => ⟨[], []⟩) (fun k => (l.take k).all (fun p => entryB s p.t.name) = true) ⟨rfl, rfl, rfl, trivial⟩ rfl (by simp) fun k hkk hjk => ?_
  by_cases hk : k < l.length
  · have dk : decide ((k : Int) < (l.length : Int)) = true := by simp [hk]
    have xk := map_get' (f := Par.enc) hk
    have hmk := List.getElem_mem hk
    have hnxk := all_next (p := fun p => entryB s p.t.name) hk hjk
    have hspk := all_stop (p := fun p => entryB s p.t.name) hk
    try dsimp only at hnxk hspk
    have hz := sumSize_mem (size := Par.size) hmk
    have hz2 := l[k].lens
    have h0 := rEntry9 s l[k].t.name hs
    cases c0 : entryB s l[k].t.name <;> rw [c0] at h0 hnxk hspk
    · have ha := hspk (by simp)
      rw [ha]
      refine .gob ?_
      exact Fin.r0
    have hj' := hnxk (by simp)
    refine .gob ?_
    exact ⟨hk, ⟨rfl, rfl, rfl, trivial⟩, by simp [belowS, AV.low, AV.low_of_closed, Sch.closed, Dfn.closed, Fld.closed, Par.closed], rfl, rfl, hj'⟩
  · have dk : decide ((k : Int) < (l.length : Int)) = false := by simp; omega
    obtain rfl : k = l.length := by omega
    rw [List.take_length] at hjk
    rw [hjk]
    refine .go ?_
    exact Fin.r0
theorem rDefaults9 (s : Sch) (l : List Par) (hs : s.size ≤ 1048576) (hl : sumSize Par.size l ≤ 1048576) : PFn Tryz.prog 95 [s.enc, .slice (l.map Par.enc) .no] (.bool (rightB s l)) := by
  have hll := sumSize_length Par.size_pos l
  refine AFn.plain rfl (by simp [AV.closed, AV.closedL, Sch.closed, Par.closedL]) (AFn.en [4] Tryz.func95 ?_)
  rw [show (rightB s l) = l.all (fun p => !p.has || litR s p.t p.d) from by unfold rightB; exact anyP _ _ (fun p => by cases p.has <;> simp) l]
  refine .gob ?_
  refine HCode.forK l.length (fun k => [(5, .int .i64 k), (1, .slice (l.map Par.enc) .no), (2, .rptr s.enc)]) (fun _ => ⟨[], []⟩) (fun k => (l.take k).all (fun p => !p.has || litR s p.t p.d) = true) ⟨rfl, rfl, rfl, trivial⟩ rfl (by simp) fun k hkk hjk => ?_
  by_cases hk : k < l.length
  · have dk : decide ((k : Int) < (l.length : Int)) = true := by simp [hk]
    have xk := map_get' (f := Par.enc) hk
    have hmk := List.getElem_mem hk
    have hnxk := all_next (p := fun p => !p.has || litR s p.t p.d) hk hjk
    have hspk := all_stop (p := fun p => !p.has || litR s p.t p.d) hk
    try dsimp only at hnxk hspk
    have hz := sumSize_mem (size := Par.size) hmk
    have hz2 := l[k].lens
    have h0 := rRight9 s l[k].t l[k].d hs (by omega) (by omega)
    cases c0 : l[k].has <;> rw [c0] at hnxk hspk
    · have hj' := hnxk (by simp)
      refine .gob ?_
      exact ⟨hk, ⟨rfl, rfl, rfl, trivial⟩, by simp [belowS, AV.low, AV.low_of_closed, Sch.closed, Dfn.closed, Fld.closed, Par.closed], rfl, rfl, hj'⟩
    cases c1 : litR s l[k].t l[k].d <;> rw [c1] at h0 hnxk hspk
    · have ha := hspk (by simp)
      rw [ha]
      refine .gob ?_
      exact Fin.r0
    have hj' := hnxk (by simp)
    refine .gob ?_
    exact ⟨hk, ⟨rfl, rfl, rfl, trivial⟩, by simp [belowS, AV.low, AV.low_of_closed, Sch.closed, Dfn.closed, Fld.closed, Par.closed], rfl, rfl, hj'⟩
  · have dk : decide ((k : Int) < (l.length : Int)) = false := by simp; omega
    obtain rfl : k = l.length := by omega
    rw [List.take_length] at hjk
    rw [hjk]
    refine .go ?_
    exact Fin.r0
theorem rLeafDefaults9 (s : Sch) (l : List Par) (hs : s.size ≤ 1048576) (hl : sumSize Par.size l ≤ 1048576) : PFn Tryz.prog 96 [s.enc, .slice (l.map Par.enc) .no] (.bool (!l.any fun p => p.has && !leafB s p.t.name)) := by
  have hll := sumSize_length Par.size_pos l
  refine AFn.plain rfl (by simp [AV.closed, AV.closedL, Sch.closed, Par.closedL]) (AFn.en [4] Tryz.func96 ?_)
  rw [show (!l.any fun p => p.has && !leafB s p.t.name) = l.all (fun p => !p.has || leafB s p.t.name) from by exact anyP _ _ (fun p => by cases p.has <;> simp) l]
  refine .gob ?_
  refine HCode.forK l.length (fun k => [(5, .int .i64 k), (1, .slice (l.map Par.enc) .no), (2, .rptr s.enc)]) (fun _ => ⟨[], []⟩) (fun k => (l.take k).all (fun p => !p.has || leafB s p.t.name) = true) ⟨rfl, rfl, rfl, trivial⟩ rfl (by simp) fun k hkk hjk => ?_
  by_cases hk : k < l.length
  · have dk : decide ((k : Int) < (l.length : Int)) = true := by simp [hk]
    have xk := map_get' (f := Par.enc) hk
    have hmk := List.getElem_mem hk
    have hnxk := all_next (p := fun p => !p.has || leafB s p.t.name) hk hjk
    have hspk := all_stop (p := fun p => !p.has || leafB s p.t.name) hk
    try dsimp only at hnxk hspk
    have hz := sumSize_mem (size := Par.size) hmk
    have hz2 := l[k].lens
    have h0 := rLeaf9 s l[k].t.name hs
    cases c0 : l[k].has <;> rw [c0] at hnxk hspk
    · have hj' := hnxk (by simp)
      refine .gob ?_
      exact ⟨hk, ⟨rfl, rfl, rfl, trivial⟩, by simp [belowS, AV.low, AV.low_of_closed, Sch.closed, Dfn.closed, Fld.closed, Par.closed], rfl, rfl, hj'⟩
    cases c1 : leafB s l[k].t.name <;> rw [c1] at h0 hnxk hspk
    · have ha := hspk (by simp)
      rw [ha]
      refine .gob ?_
      exact Fin.r0
    have hj' := hnxk (by simp)
    refine .gob ?_
    exact ⟨hk, ⟨rfl, rfl, rfl, trivial⟩, by simp [belowS, AV.low, AV.low_of_closed, Sch.closed, Dfn.closed, Fld.closed, Par.closed], rfl, rfl, hj'⟩
  · have dk : decide ((k : Int) < (l.length : Int)) = false := by simp; omega
    obtain rfl : k = l.length := by omega
    rw [List.take_length] at hjk
    rw [hjk]
    refine .go ?_
    exact Fin.r0
theorem rBears9 (s : Sch) (f g : Fld) (hs : s.size ≤ 1048576) (hf : f.size ≤ 1048640) (hg : g.size ≤ 1048640) : PFn Tryz.prog 93 [s.enc, f.enc, g.enc] (.bool (subB s f.t g.t && takesB f g)) := by
  have hfs := f.sums
  have hgs := g.sums
  have hfl := sumSize_length Par.size_pos f.params
  have hgl := sumSize_length Par.size_pos g.params
  have h1 := rSub9 s f.t g.t hs (by omega) (by omega)
  refine AFn.plain rfl (by simp [AV.closed, AV.closedL, Fld.closed, Sch.closed]) (AFn.en [6] Tryz.func93 ?_)
  rw [takes_eq]
  cases c0 : subB s f.t g.t <;> rw [c0] at h1
  · refine .gob ?_
    exact Fin.r0
  rw [Bool.true_and]
  refine .gob ?_
  refine HCode.forK g.params.length (fun k => [(7, .int .i64 k), (4, .rptr f.enc), (5, .rptr g.enc)]) (fun _ => ⟨[], []⟩) (fun k => (g.params.take k).all (takes1 f) = true) ⟨rfl, rfl, rfl, trivial⟩ rfl (by simp) fun k hkk hjk => ?_
  by_cases hk : k < g.params.length
  · have dk : decide ((k : Int) < (g.params.length : Int)) = true := by simp [hk]
    have xk := map_get' (f := Par.enc) hk
    have hmk := List.getElem_mem hk
    have hnxk := all_next (p := takes1 f) hk hjk
    have hspk := all_stop (p := takes1 f) hk
    try dsimp only at hnxk hspk
    have hpar := rParam9 f.params g.params[k].name (by omega)
    unfold takes1 at hnxk hspk
    unfold parR at hpar
    cases ho : parO f.params g.params[k].name with
    | none =>
      rw [ho] at hpar hnxk hspk
      have ha : g.params.all (takes1 f) = false := hspk rfl
      rw [ha, Bool.false_and]
      refine .go ?_
      exact Fin.r0
    | some q =>
      rw [ho] at hpar hnxk hspk
      simp only at hpar hnxk hspk
      rw [typ_eq] at hnxk hspk
      have hq : eqFs Tryz.prog typeFs2 0 [.str q.t.name, .int .i64 q.t.lists, .int .i64 q.t.musts] [.str g.params[k].t.name, .int .i64 g.params[k].t.lists, .int .i64 g.params[k].t.musts] = some (q.t.name == g.params[k].t.name && (q.t.lists == g.params[k].t.lists && (q.t.musts == g.params[k].t.musts && true))) := rfl
      generalize (q.t.name == g.params[k].t.name && (q.t.lists == g.params[k].t.lists && (q.t.musts == g.params[k].t.musts && true))) = b at hq hnxk hspk
      cases b with
      | true =>
        have hj' := hnxk rfl
        repeat' first | refine .s1 ?_ | (refine .q ?_ ?_ <;> intro hc) | refine A.neT eq_type2 rfl rfl hq ?_ | fail
        exact ⟨hk, ⟨rfl, rfl, rfl, trivial⟩, by simp [belowS, AV.low, AV.low_of_closed, Sch.closed, Dfn.closed, Fld.closed, Par.closed], rfl, rfl, hj'⟩
      | false =>
        have ha : g.params.all (takes1 f) = false := hspk rfl
        rw [ha, Bool.false_and]
        repeat' first | refine .s1 ?_ | (refine .q ?_ ?_ <;> intro hc) | refine A.neT eq_type2 rfl rfl hq ?_ | fail
        exact Fin.r0
  · have dk : decide ((k : Int) < (g.params.length : Int)) = false := by simp; omega
    obtain rfl : k = g.params.length := by omega
    rw [List.take_length] at hjk
    rw [hjk, Bool.true_and]
    refine .go ?_
    refine HCode.forK f.params.length (fun j => [(10, .int .i64 j), (4, .rptr f.enc), (5, .rptr g.enc)]) (fun _ => ⟨[], []⟩) (fun j => (f.params.take j).all (takes2 g) = true) ⟨rfl, rfl, rfl, trivial⟩ rfl (by simp) fun j hkj hjj => ?_
    by_cases hj : j < f.params.length
    · have dj : decide ((j : Int) < (f.params.length : Int)) = true := by simp [hj]
      have xj := map_get' (f := Par.enc) hj
      have hmj := List.getElem_mem hj
      have hnxj := all_next (p := takes2 g) hj hjj
      have hspj := all_stop (p := takes2 g) hj
      try dsimp only at hnxj hspj
      have hz := sumSize_mem (size := Par.size) hmj
      have hz2 := f.params[j].lens
      have hpar := rParam9 g.params f.params[j].name (by omega)
      have hi := rIs f.params[j].t (by omega)
      unfold takes2 reqB at hnxj hspj
      unfold parR at hpar
      cases ho : parO g.params f.params[j].name with
      | none =>
        rw [ho] at hpar hnxj hspj
        cases c1 : isT f.params[j].t <;> rw [c1] at hi hnxj hspj
        · have hj' := hnxj rfl
          refine .go ?_
          exact ⟨hj, ⟨rfl, rfl, rfl, trivial⟩, by simp [belowS, AV.low, AV.low_of_closed, Sch.closed, Dfn.closed, Fld.closed, Par.closed], rfl, rfl, hj'⟩
        cases c2 : f.params[j].has <;> rw [c2] at hnxj hspj
        · have n2 : (!f.params[j].has) = true := by rw [c2]; rfl
          have ha : f.params.all (takes2 g) = false := hspj rfl
          rw [ha]
          refine .go ?_
          exact Fin.r0
        have n2 : (!f.params[j].has) = false := by rw [c2]; rfl
        have hj' := hnxj rfl
        refine .go ?_
        exact ⟨hj, ⟨rfl, rfl, rfl, trivial⟩, by simp [belowS, AV.low, AV.low_of_closed, Sch.closed, Dfn.closed, Fld.closed, Par.closed], rfl, rfl, hj'⟩
      | some q =>
        rw [ho] at hpar hnxj
        have hj' := hnxj rfl
        refine .go ?_
        exact ⟨hj, ⟨rfl, rfl, rfl, trivial⟩, by simp [belowS, AV.low, AV.low_of_closed, Sch.closed, Dfn.closed, Fld.closed, Par.closed], rfl, rfl, hj'⟩
    · have dj : decide ((j : Int) < (f.params.length : Int)) = false := by simp; omega
      obtain rfl : j = f.params.length := by omega
      rw [List.take_length] at hjj
      rw [hjj]
      refine .go ?_
      exact Fin.r0
def needL (s : Sch) (l : List Par) : List Str := (l.filter (needRP s)).map fun p => p.t.name
theorem needL_next (s : Sch) {l : List Par} {k : Nat} (h : k < l.length) : needL s (l.take (k + 1)) = needL s (l.take k) ++ (if needRP s l[k] = true then [l[k].t.name] else []) := by
  unfold needL
  rw [List.take_succ_eq_append_getElem h, List.filter_append, List.map_append]
  congr 1
  by_cases c : needRP s l[k] = true
  · simp [c]
  · simp [c]
theorem needL_len (s : Sch) (l : List Par) : (needL s l).length ≤ l.length := by unfold needL; rw [List.length_map]; exact List.length_filter_le ..
theorem rNeeds9N (s : Sch) (name : Str) (hs : s.size ≤ 1048576) : AFn Tryz.prog 94 [s.enc, .str name] ⟨[], []⟩ (fun e σ1 => e = .ret (.slice ((needsR s name).map AV.str) (.own 0 1)) ∧ σ1 = ⟨[], [.len (needsR s name).length]⟩) := by
  have hf := rFind9 s name hs
  have hz := findR_size (name := name) (show s.size ≤ 68719476736 by omega)
  refine AFn.dropped (AFn.en [4] Tryz.func94 ?_)
  unfold needsR
  generalize findR s name = r at hf hz
  obtain ⟨x, ok⟩ := r
  simp only at hf hz ⊢
  refine .gob ?_
  refine HCode.adopt 5 false 1 rfl rfl rfl rfl rfl rfl ?_
  by_cases k5 : x.kind = 5
  · have q5 : (x.kind == 5) = true := by simp [k5]
    rw [if_pos k5]
    refine HCode.forK x.params.length (fun k => [(8, .int .i64 k), (2, .rptr s.enc), (5, .slice ((needL s (x.params.take k)).map AV.str) (.own 0 1)), (6, .ptr 0 0)])
      (fun k => ⟨[.cells [.int .i64 x.kind, .str x.name, .slice (x.faces.map AV.str) .no, .slice (x.fields.map Fld.enc) .no, .slice (x.parts.map AV.str) .no, .slice (x.params.map Par.enc) .no]], [.len (needL s (x.params.take k)).length]⟩) (fun _ => True)
      ⟨rfl, rfl, rfl, rfl, trivial⟩ rfl trivial fun k hk _ => ?_
    by_cases h1 : k < x.params.length
    · have d1 : decide ((k : Int) < (x.params.length : Int)) = true := by simp [h1]
      have x1 := map_get' (f := Par.enc) h1
      have hkd := rIs9 s x.params[k].t.name 5 5 5 hs
      rw [kindB1] at hkd
      have hst := needL_next s h1
      have hln := needL_len s (x.params.take k)
      rw [List.length_take] at hln
      unfold needRP at hst
      generalize needL s (x.params.take k) = xs at hst hln
      have e1 : (x.params[k].t.lists == 0) = decide (x.params[k].t.lists = 0) := by rw [Bool.eq_iff_iff]; simp
      have e2 : (x.params[k].t.musts == 1) = decide (x.params[k].t.musts = 1) := by rw [Bool.eq_iff_iff]; simp
      have fin0 : ∀ b, b = false → (if b = true then [x.params[k].t.name] else ([] : List Str)) = [] := fun b h => by rw [h]; rfl
      cases c1 : decide (x.params[k].t.lists = 0) <;> rw [c1] at e1 hst
      · rw [Bool.false_and, fin0 _ rfl, List.append_nil] at hst
        refine .go ?_
        exact ⟨h1, ⟨rfl, rfl, by rw [hst]; rfl, rfl, trivial⟩, by simp [-List.map_take, belowS, AV.low, AV.low_of_closed, Sch.closed], by simp [belowB, belowT, Ob.low, Tok.low, AV.lowL, AV.low], by rw [hst]; rfl, trivial⟩
      cases c2 : decide (x.params[k].t.musts = 1) <;> rw [c2] at e2 hst
      · rw [Bool.false_and, Bool.and_false, fin0 _ rfl, List.append_nil] at hst
        refine .go ?_
        exact ⟨h1, ⟨rfl, rfl, by rw [hst]; rfl, rfl, trivial⟩, by simp [-List.map_take, belowS, AV.low, AV.low_of_closed, Sch.closed], by simp [belowB, belowT, Ob.low, Tok.low, AV.lowL, AV.low], by rw [hst]; rfl, trivial⟩
      cases c3 : kindB s x.params[k].t.name [5] <;> rw [c3] at hkd hst
      · rw [fin0 (true && (true && false)) rfl, List.append_nil] at hst
        refine .go ?_
        exact ⟨h1, ⟨rfl, rfl, by rw [hst]; rfl, rfl, trivial⟩, by simp [-List.map_take, belowS, AV.low, AV.low_of_closed, Sch.closed], by simp [belowB, belowT, Ob.low, Tok.low, AV.lowL, AV.low], by rw [hst]; rfl, trivial⟩
      rw [if_pos (show (true && (true && true)) = true from rfl)] at hst
      repeat' first | refine .s1 ?_ | (refine .q ?_ ?_ <;> intro hc) | refine A.append (n := xs.length) rfl rfl rfl rfl rfl rfl rfl rfl (List.length_map ..) rfl (by dsimp only [List.length_cons, List.length_nil]; omega) (by dsimp only [List.length_cons, List.length_nil]; omega) rfl ?_ | fail
      exact ⟨h1, ⟨rfl, rfl, by rw [hst, List.map_append]; rfl, rfl, trivial⟩, by simp [-List.map_take, belowS, AV.low, AV.low_of_closed, Sch.closed], by simp [belowB, belowT, Ob.low, Tok.low, AV.lowL, AV.low], by rw [hst, List.length_append]; rfl, trivial⟩
    · have d1 : decide ((k : Int) < (x.params.length : Int)) = false := by simp; omega
      obtain rfl : k = x.params.length := by omega
      rw [List.take_length]
      refine .go ?_
      exact ⟨.slice ((needL s x.params).map AV.str) (.own 0 1), 0, 1, rfl, Nat.le_refl _, Nat.zero_le _, by simp [AV.low], rfl, by simp [belowT, Tok.low], rfl, rfl⟩
  · have q5 : (x.kind == 5) = false := by simp [k5]
    rw [if_neg k5]
    refine HCode.forK 0 (fun k => [(8, .int .i64 k), (2, .rptr s.enc), (5, .slice [] (.own 0 1)), (6, .ptr 0 0)])
      (fun k => ⟨[.cells [.int .i64 x.kind, .str x.name, .slice (x.faces.map AV.str) .no, .slice (x.fields.map Fld.enc) .no, .slice (x.parts.map AV.str) .no, .slice (x.params.map Par.enc) .no]], [.len 0]⟩) (fun _ => True)
      ⟨rfl, rfl, rfl, rfl, trivial⟩ rfl trivial fun k hk _ => ?_
    by_cases h1 : k < x.params.length
    · have d1 : decide ((k : Int) < (x.params.length : Int)) = true := by simp [h1]
      refine .go ?_
      exact ⟨.slice [] (.own 0 1), 0, 1, rfl, Nat.le_refl _, Nat.zero_le _, by simp [AV.low, AV.lowL], rfl, by simp [belowT, Tok.low], rfl, rfl⟩
    · have d1 : decide ((k : Int) < (x.params.length : Int)) = false := by simp; omega
      refine .go ?_
      exact ⟨.slice [] (.own 0 1), 0, 1, rfl, Nat.le_refl _, Nat.zero_le _, by simp [AV.low, AV.lowL], rfl, by simp [belowT, Tok.low], rfl, rfl⟩
theorem rNeeds9 (s : Sch) (name : Str) (hs : s.size ≤ 1048576) : PFn Tryz.prog 94 [s.enc, .str name] (.slice ((needsR s name).map AV.str) .no) :=
  AFn.plain (str_closedL _) (by simp [AV.closed, AV.closedL, Sch.closed]) ((rNeeds9N s name hs).mono fun e σ h => ⟨_, h.1, Weak.no (WeakL.refl _)⟩)
end Go.Proofs.YtmfmdehfbpkgdaaGreatDoor
