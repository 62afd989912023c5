/-
  Contracts and plain facts for a law, joined.
-/
import Derived.Test.YtgghkkeejagfkaaGreatDoorGSBC1
import Derived.Test.YtgghkkeejagfkaaGreatDoorGSBC14
import Derived.Test.YtgghkkeejagfkaaGreatDoorGSBC6
import Derived.Test.YtgghkkeejagfkaaGreatDoorGSBC7
import Derived.Test.YtgghkkeejagfkaaGreatDoorGSBC12
import Derived.Test.YtgghkkeejagfkaaGreatDoorAvGo
import Derived.Test.YtgghkkeejagfkaaGreatDoorGSBC9
set_option maxRecDepth 100000
set_option maxHeartbeats 16000000
set_option linter.unusedVariables false
set_option linter.unusedSimpArgs false
set_option linter.unusedSectionVars false
namespace Go.Proofs.YtgghkkeejagfkaaGreatDoor
open Go Go.Av
attribute [local irreducible] HCode AOps PFn AFn Av.Step TStep
def okF (s : Sch) (d : Dfn) (g : Fld) : Bool := (fieldR s d.name g.name).2 && (subB s (fieldR s d.name g.name).1.t g.t && takesB (fieldR s d.name g.name).1 g)
theorem hasR_eq (s : Sch) (d : Dfn) (n : Str) : hasR s d n = (findR s n).1.fields.all (okF s d) := by
  unfold hasR
  congr 1
  funext g
  unfold okF fieldR
  cases fieldO s d.name g.name <;> simp
theorem findR_flds {s : Sch} {n : Str} {g : Fld} (h : g ∈ (findR s n).1.fields) : g.size ≤ s.size ∧ (findR s n).1.fields.length ≤ s.size := by
  rcases findR_in s n with h1 | h1 | h1
  · have h2 := Sch.dfn h1
    have h3 := (findR s n).1.sums
    have h4 := sumSize_mem (size := Fld.size) h
    have h5 := (findR s n).1.lens
    exact ⟨by omega, by omega⟩
  · rw [h1] at h; simp at h
  · rw [h1] at h; simp [zeroD] at h
theorem fieldR_size (s : Sch) (typ name : Str) : (fieldR s typ name).1.size ≤ s.size + 60 := by
  unfold fieldR
  cases e : fieldO s typ name with
  | none =>
    show zeroF.size ≤ _
    have : zeroF.size = 8 := rfl
    omega
  | some f =>
    unfold fieldO at e
    split at e
    · rename_i c
      cases e
      dsimp only
      rw [c.1]
      have : (Fld.mk sTypename [] ⟨sString, 0, 1⟩ []).size = 24 := rfl
      omega
    · split at e
      · have h := findR_flds (List.mem_of_find?_eq_some e)
        dsimp only; omega
      · cases e
theorem rRule6 (s : Sch) (hs : s.size ≤ 1048576) (ho : s.ok) : PFn Tryz.prog 55 [s.enc] (.bool (keptR s)) := by
  have hl := s.len
  refine AFn.plain rfl (by simp [AV.closed, AV.closedL, Sch.closed]) (AFn.enter [2] Tryz.func55 rfl rfl rfl rfl rfl (by decide) ?_)
  rw [show (keptR s) = s.defs.all (fun d => d.faces.all fun n => (findR s n).1.fields.all (okF s d)) from by
      unfold keptR
      congr 1
      funext d
      congr 1
      funext n
      exact hasR_eq s d n]
  refine .gob ?_
  refine HCode.forK s.defs.length (fun k => [(3, .int .i64 k), (1, .rptr s.enc)]) (fun _ => ⟨[], []⟩) (fun k => (s.defs.take k).all (fun d => d.faces.all fun n => (findR s n).1.fields.all (okF s d)) = true) ⟨rfl, rfl, trivial⟩ rfl (by simp) fun k hkk hjk => ?_
  by_cases hk : k < s.defs.length
  · have dk : decide ((k : Int) < (s.defs.length : Int)) = true := by simp [hk]
    have xk := map_get' (f := Dfn.enc) hk
    have hmk := List.getElem_mem hk
    have hnxk := all_next (p := fun d => d.faces.all fun n => (findR s n).1.fields.all (okF s d)) hk hjk
    have hspk := all_stop (p := fun d => d.faces.all fun n => (findR s n).1.fields.all (okF s d)) hk
    try dsimp only at hnxk hspk
    have hdz := Sch.dfn hmk
    generalize hd : s.defs[k] = d at *
    have hdl := d.lens
    have hdm := d.sums
    repeat' first | refine A.allocv (d := 4) rfl rfl rfl rfl rfl ?_ | refine HCode.turn 4 rfl (Turn.freezeP rfl rfl rfl rfl) ?_ | refine .br ?_ | refine .s1 ?_ | (refine .cond rfl ?_ ?_ <;> intro hc) | (refine A.guard rfl ?_ ?_ <;> intro hc) | refine A.vstore (agg := true) rfl rfl rfl rfl rfl rfl rfl rfl rfl rfl rfl ?_ | fail
    refine HCode.forK d.faces.length (fun j => [(5, .int .i64 j), (4, .rptr d.enc), (3, .int .i64 k), (1, .rptr s.enc)]) (fun _ => ⟨[], [.len 2]⟩) (fun j => (d.faces.take j).all (fun n => (findR s n).1.fields.all (okF s d)) = true) ⟨rfl, rfl, rfl, rfl, trivial⟩ rfl (by simp) fun j hkj hjj => ?_
    by_cases hj : j < d.faces.length
    · have dj : decide ((j : Int) < (d.faces.length : Int)) = true := by simp [hj]
      have xj := map_get' (f := AV.str) hj
      have hmj := List.getElem_mem hj
      have hnxj := all_next (p := fun n => (findR s n).1.fields.all (okF s d)) hj hjj
      have hspj := all_stop (p := fun n => (findR s n).1.fields.all (okF s d)) hj
      try dsimp only at hnxj hspj
      have hF := rFind9 s d.faces[j] hs
      have hfl : ∀ g ∈ (findR s d.faces[j]).1.fields, g.size ≤ s.size ∧ (findR s d.faces[j]).1.fields.length ≤ s.size := fun g hg => findR_flds hg
      have hfz := (findR_size (name := d.faces[j]) (show s.size ≤ 68719476736 by omega)).2.2.2.1
      generalize hR : findR s d.faces[j] = r at *
      obtain ⟨x, o⟩ := r
      dsimp only at hF hnxj hspj hfl hfz
      repeat' first | refine A.allocv (d := 6) rfl rfl rfl rfl rfl ?_ | refine HCode.turn 6 rfl (Turn.freezeP rfl rfl rfl rfl) ?_ | refine .s1 ?_ | (refine .cond rfl ?_ ?_ <;> intro hc) | (refine A.guard rfl ?_ ?_ <;> intro hc) | refine A.vstore (agg := true) rfl rfl rfl rfl rfl rfl rfl rfl rfl rfl rfl ?_ | fail
      refine HCode.forK x.fields.length (fun i => [(8, .int .i64 i), (6, .rptr x.enc), (5, .int .i64 j), (4, .rptr d.enc), (3, .int .i64 k), (1, .rptr s.enc)]) (fun _ => ⟨[], [.len 2, .len 2]⟩) (fun i => (x.fields.take i).all (okF s d) = true) ⟨rfl, rfl, rfl, rfl, rfl, rfl, trivial⟩ rfl (by simp) fun i hki hji => ?_
      by_cases hi : i < x.fields.length
      · have di : decide ((i : Int) < (x.fields.length : Int)) = true := by simp [hi]
        have xi := map_get' (f := Fld.enc) hi
        have hmi := List.getElem_mem hi
        have hnxi := all_next (p := okF s d) hi hji
        have hspi := all_stop (p := okF s d) hi
        try dsimp only at hnxi hspi
        have hgz := (hfl _ hmi).1
        generalize hg : x.fields[i] = g at *
        have hFi := rField9 s d.name g.name hs
        have hfsz := fieldR_size s d.name g.name
        have hBe := rBears9 s (fieldR s d.name g.name).1 g hs (by omega) (by omega)
        unfold okF at hnxi hspi
        generalize hFR : fieldR s d.name g.name = fr at *
        obtain ⟨f, o2⟩ := fr
        dsimp only at hFi hBe hnxi hspi
        cases o2 with
        | false =>
          have h3 := hspi (by simp)
          have hi := hspj h3
          have ha := hspk (by rw [hi])
          rw [ha]
          repeat' first | refine A.allocv (d := 9) rfl rfl rfl rfl rfl ?_ | refine HCode.turn 9 rfl (Turn.freezeP rfl rfl rfl rfl) ?_ | refine .s1 ?_ | (refine .cond rfl ?_ ?_ <;> intro hc) | (refine A.guard rfl ?_ ?_ <;> intro hc) | refine A.vstore (agg := true) rfl rfl rfl rfl rfl rfl rfl rfl rfl rfl rfl ?_ | fail
          exact Fin.ret1 rfl (Weak.refl _)
        | true =>
          cases c1 : (subB s f.t g.t && takesB f g) <;> rw [c1] at hBe hnxi hspi
          · have h3 := hspi (by simp)
            have hi := hspj h3
            have ha := hspk (by rw [hi])
            rw [ha]
            repeat' first | refine A.allocv (d := 9) rfl rfl rfl rfl rfl ?_ | refine HCode.turn 9 rfl (Turn.freezeP rfl rfl rfl rfl) ?_ | refine .s1 ?_ | (refine .cond rfl ?_ ?_ <;> intro hc) | (refine A.guard rfl ?_ ?_ <;> intro hc) | refine A.vstore (agg := true) rfl rfl rfl rfl rfl rfl rfl rfl rfl rfl rfl ?_ | fail
            exact Fin.ret1 rfl (Weak.refl _)
          have hj' := hnxi rfl
          repeat' first | refine A.allocv (d := 9) rfl rfl rfl rfl rfl ?_ | refine HCode.turn 9 rfl (Turn.freezeP rfl rfl rfl rfl) ?_ | refine .s1 ?_ | (refine .cond rfl ?_ ?_ <;> intro hc) | (refine A.guard rfl ?_ ?_ <;> intro hc) | refine A.vstore (agg := true) rfl rfl rfl rfl rfl rfl rfl rfl rfl rfl rfl ?_ | fail
          exact ⟨hi, ⟨rfl, rfl, rfl, rfl, rfl, rfl, trivial⟩, by simp [belowS, AV.low, AV.low_of_closed, Sch.closed, Dfn.closed, Fld.closed, Par.closed], rfl, rfl, hj'⟩
      · have di : decide ((i : Int) < (x.fields.length : Int)) = false := by simp; omega
        obtain rfl : i = x.fields.length := by omega
        rw [List.take_length] at hji
        have hj' := hnxj (by rw [hji])
        refine .go ?_
        exact ⟨hj, ⟨rfl, rfl, rfl, rfl, trivial⟩, by simp [belowS, AV.low, AV.low_of_closed, Sch.closed, Dfn.closed, Fld.closed, Par.closed], rfl, rfl, hj'⟩
    · have dj : decide ((j : Int) < (d.faces.length : Int)) = false := by simp; omega
      obtain rfl : j = d.faces.length := by omega
      rw [List.take_length] at hjj
      have hj' := hnxk (by rw [hjj])
      refine .go ?_
      exact ⟨hk, ⟨rfl, rfl, trivial⟩, by simp [belowS, AV.low, AV.low_of_closed, Sch.closed, Dfn.closed, Fld.closed, Par.closed], rfl, rfl, hj'⟩
  · have dk : decide ((k : Int) < (s.defs.length : Int)) = false := by simp; omega
    obtain rfl : k = s.defs.length := by omega
    rw [List.take_length] at hjk
    rw [hjk]
    refine .go ?_
    exact Fin.ret1 rfl (Weak.refl _)
theorem rRule7 (s : Sch) (hs : s.size ≤ 1048576) (ho : s.ok) : PFn Tryz.prog 56 [s.enc] (.bool (partsB s)) := by
  have hl := s.len
  refine AFn.plain rfl (by simp [AV.closed, AV.closedL, Sch.closed]) (AFn.enter [2] Tryz.func56 rfl rfl rfl rfl rfl (by decide) ?_)
  rw [show (partsB s) = s.defs.all (fun d => d.kind != 3 || d.parts.all fun n => kindB s n [1]) from by
      unfold partsB
      rw [every_all]
      congr 1
      funext d
      unfold parts1
      rw [anyN]]
  refine .gob ?_
  refine HCode.forK s.defs.length (fun k => [(3, .int .i64 k), (1, .rptr s.enc)]) (fun _ => ⟨[], []⟩) (fun k => (s.defs.take k).all (fun d => d.kind != 3 || d.parts.all fun n => kindB s n [1]) = true) ⟨rfl, rfl, trivial⟩ rfl (by simp) fun k hkk hjk => ?_
  by_cases hk : k < s.defs.length
  · have dk : decide ((k : Int) < (s.defs.length : Int)) = true := by simp [hk]
    have xk := map_get' (f := Dfn.enc) hk
    have hmk := List.getElem_mem hk
    have hnxk := all_next (p := fun d => d.kind != 3 || d.parts.all fun n => kindB s n [1]) hk hjk
    have hspk := all_stop (p := fun d => d.kind != 3 || d.parts.all fun n => kindB s n [1]) hk
    try dsimp only at hnxk hspk
    have hdz := Sch.dfn hmk
    generalize hd : s.defs[k] = d at *
    have hdl := d.lens
    have hdm := d.sums
    cases k3 : (d.kind == 3)
    · have n3 : (d.kind != 3) = true := by unfold bne; rw [k3]; rfl
      rw [n3] at hnxk hspk
      have hj' := hnxk rfl
      refine .gob ?_
      refine HCode.forK 0 (fun j => [(4, .int .i64 j), (3, .int .i64 k), (1, .rptr s.enc)]) (fun _ => ⟨[], []⟩) (fun _ => True) ⟨rfl, rfl, rfl, trivial⟩ rfl trivial fun j hj _ => ?_
      obtain rfl : j = 0 := by omega
      cases d1 : decide (((0 : Nat) : Int) < (d.parts.length : Int))
      all_goals
        refine .go ?_
        exact ⟨hk, ⟨rfl, rfl, trivial⟩, by simp [belowS, AV.low, AV.low_of_closed, Sch.closed, Dfn.closed, Fld.closed, Par.closed], rfl, rfl, hj'⟩
    have n3 : (d.kind != 3) = false := by unfold bne; rw [k3]; rfl
    rw [n3] at hnxk hspk
    refine .gob ?_
    refine HCode.forK d.parts.length (fun j => [(4, .int .i64 j), (3, .int .i64 k), (1, .rptr s.enc)]) (fun _ => ⟨[], []⟩) (fun j => (d.parts.take j).all (fun n => kindB s n [1]) = true) ⟨rfl, rfl, rfl, trivial⟩ rfl (by simp) fun j hkj hjj => ?_
    by_cases hj : j < d.parts.length
    · have dj : decide ((j : Int) < (d.parts.length : Int)) = true := by simp [hj]
      have xj := map_get' (f := AV.str) hj
      have hmj := List.getElem_mem hj
      have hnxj := all_next (p := fun n => kindB s n [1]) hj hjj
      have hspj := all_stop (p := fun n => kindB s n [1]) hj
      try dsimp only at hnxj hspj
      have q := rObject9 s d.parts[j] hs
      cases c : kindB s d.parts[j] [1] <;> rw [c] at q hnxj hspj
      · have hi := hspj rfl
        have ha := hspk (by rw [hi]; rfl)
        rw [ha]
        refine .go ?_
        exact Fin.ret1 rfl (Weak.refl _)
      have hj' := hnxj rfl
      refine .go ?_
      exact ⟨hj, ⟨rfl, rfl, rfl, trivial⟩, by simp [belowS, AV.low, AV.low_of_closed, Sch.closed, Dfn.closed, Fld.closed, Par.closed], rfl, rfl, hj'⟩
    · have dj : decide ((j : Int) < (d.parts.length : Int)) = false := by simp; omega
      obtain rfl : j = d.parts.length := by omega
      rw [List.take_length] at hjj
      have hj' := hnxk (by rw [hjj]; rfl)
      refine .go ?_
      exact ⟨hk, ⟨rfl, rfl, trivial⟩, by simp [belowS, AV.low, AV.low_of_closed, Sch.closed, Dfn.closed, Fld.closed, Par.closed], rfl, rfl, hj'⟩
  · have dk : decide ((k : Int) < (s.defs.length : Int)) = false := by simp; omega
    obtain rfl : k = s.defs.length := by omega
    rw [List.take_length] at hjk
    rw [hjk]
    refine .go ?_
    exact Fin.ret1 rfl (Weak.refl _)
theorem rRule8 (s : Sch) (hs : s.size ≤ 1048576) (ho : s.ok) : PFn Tryz.prog 57 [s.enc] (.bool (openR s)) := by
  have hl := s.len
  refine AFn.plain rfl (by simp [AV.closed, AV.closedL, Sch.closed]) (AFn.enter [2] Tryz.func57 rfl rfl rfl rfl rfl (by decide) ?_)
  rw [show (openR s) = s.defs.all (fun d => !ringR s d.name) from by
      unfold openR
      exact anyP _ _ (fun d => rfl) _]
  refine .gob ?_
  refine HCode.forK s.defs.length (fun k => [(3, .int .i64 k), (1, .rptr s.enc)]) (fun _ => ⟨[], []⟩) (fun k => (s.defs.take k).all (fun d => !ringR s d.name) = true) ⟨rfl, rfl, trivial⟩ rfl (by simp) fun k hkk hjk => ?_
  by_cases hk : k < s.defs.length
  · have dk : decide ((k : Int) < (s.defs.length : Int)) = true := by simp [hk]
    have xk := map_get' (f := Dfn.enc) hk
    have hmk := List.getElem_mem hk
    have hnxk := all_next (p := fun d => !ringR s d.name) hk hjk
    have hspk := all_stop (p := fun d => !ringR s d.name) hk
    try dsimp only at hnxk hspk
    have hdz := Sch.dfn hmk
    generalize hd : s.defs[k] = d at *
    have hdl := d.lens
    have hdm := d.sums
    have h0 := rNeeds9N s d.name hs
    have hcl0 : AV.closedL [s.enc, .str d.name] = true := by simp [AV.closed, AV.closedL, Sch.closed]
    have hN0 := allTs_len s
    have hr8 : ringR s d.name = decide (d.name ∈ closeF (needsR s) ((needsR s d.name).length + (allTs s).length) 0 (needsR s d.name)) := rfl
    have hl0 : (needsR s d.name).length ≤ 68719476736 := by
      unfold needsR
      have := (findR_size (name := d.name) (show s.size ≤ 68719476736 by omega)).1
      split
      · have := needL_len s (findR s d.name).1.params
        unfold needL at this; omega
      · simp
    generalize needsR s d.name = l0 at h0 hr8 hl0
    have hb0 : cntU (allTs s) l0 + l0.length ≤ l0.length + (allTs s).length := by have := cnt_le (allTs s) l0; omega
    generalize hNN : l0.length + (allTs s).length = N at hb0 hr8
    generalize hR : closeF (needsR s) N 0 l0 = R at hr8
    rw [hr8] at hnxk hspk
    repeat' first | refine .br ?_ | refine A.callN rfl rfl h0 hcl0 (WeakL.refl _) (by simp [AV.low]) rfl ?_ | refine .s1 ?_ | (refine .cond rfl ?_ ?_ <;> intro hc) | (refine A.guard rfl ?_ ?_ <;> intro hc) | fail
    refine HCode.loop (fun z s1 σ => ∃ (i : Nat) (l : List Str), z = N - i ∧ i ≤ l.length ∧ cntU (allTs s) l + l.length ≤ N ∧ closeF (needsR s) (N - i) i l = R ∧ σ = ⟨[], [.len l.length]⟩ ∧
        s1 = [(5, .int .i64 i), (4, .slice (l.map AV.str) (.own 0 1)), (3, .int .i64 k), (1, .rptr s.enc)])
      (s0 := [(5, .int .i64 (0 : Nat)), (4, .slice (l0.map AV.str) (.own 0 1)), (3, .int .i64 k), (1, .rptr s.enc)]) ⟨rfl, rfl, rfl, rfl, trivial⟩ ⟨0, l0, rfl, Nat.zero_le _, hb0, hR, rfl, rfl⟩ ?_
    rintro z s1 σ ⟨i, l, rfl, hil, hcb, hcl, rfl, rfl⟩
    have hlm : (l.map AV.str).length = l.length := List.length_map ..
    by_cases h1 : i < l.length
    · have d1 : decide ((i : Int) < (l.length : Int)) = true := by simp [h1]
      have x1 := map_get' (f := AV.str) h1
      have hg : l[i]? = some l[i] := List.getElem?_eq_getElem h1
      have hn := rNeeds9 s l[i] hs
      have hUm : ∀ y ∈ needsR s l[i], y ∈ allTs s := needsR_all l[i]
      have hstep : closeF (needsR s) (N - (i + 1)) (i + 1) ((needsR s l[i]).foldl addNew l) = R := by
        rw [← hcl, show N - i = (N - (i + 1)) + 1 by omega, closeF, hg]
      have hml : (needsR s l[i]).length ≤ 68719476736 := by
        unfold needsR
        have := (findR_size (name := l[i]) (show s.size ≤ 68719476736 by omega)).1
        split
        · have := needL_len s (findR s l[i]).1.params
          unfold needL at this; omega
        · simp
      generalize needsR s l[i] = m at hn hUm hstep hml
      refine .go ?_
      refine HCode.forK m.length (fun j => [(7, .int .i64 j), (6, .slice (m.map AV.str) .no), (4, .slice (((m.take j).foldl addNew l).map AV.str) (.own 0 1)), (5, .int .i64 i), (3, .int .i64 k), (1, .rptr s.enc)])
        (fun j => ⟨[], [.len ((m.take j).foldl addNew l).length]⟩) (fun _ => True) ⟨rfl, rfl, rfl, rfl, rfl, rfl, trivial⟩ rfl trivial fun j hj _ => ?_
      by_cases h2 : j < m.length
      · have d2 : decide ((j : Int) < (m.length : Int)) = true := by simp [h2]
        have x2 := map_get' (f := AV.str) h2
        have hst := fold_take (f := addNew) (a := l) h2
        have hbb := cnt_addAll (U := allTs s) (l := l) (xs := m.take j) (fun y hy => hUm y (List.mem_of_mem_take hy))
        generalize (m.take j).foldl addNew l = xs at hst hbb
        have hct := rHas xs m[j] (by omega)
        have hwk : WeakL [.slice (xs.map AV.str) (.own 0 1), .str m[j]] [.slice (xs.map AV.str) .no, .str m[j]] := WeakL.cons (Weak.no (WeakL.refl _)) (WeakL.refl _)
        unfold addNew at hst
        by_cases c : m[j] ∈ xs
        · rw [decide_eq_true c] at hct
          replace hst := hst.trans (if_pos c)
          repeat' first | refine A.call rfl hct hwk ?_ | refine .s1 ?_ | (refine .cond rfl ?_ ?_ <;> intro hc) | (refine A.guard rfl ?_ ?_ <;> intro hc) | fail
          exact ⟨h2, ⟨rfl, rfl, by unfold addNew; rw [hst]; rfl, rfl, rfl, rfl, trivial⟩, by simp [-List.map_take, belowS, AV.low, AV.lowL, AV.low_of_closed, Sch.closed], by simp [belowB, belowT, Ob.low, Tok.low], by unfold addNew; rw [hst]; rfl, trivial⟩
        · rw [decide_eq_false c] at hct
          replace hst := hst.trans (if_neg c)
          repeat' first | refine A.call rfl hct hwk ?_ | refine .s1 ?_ | (refine .cond rfl ?_ ?_ <;> intro hc) | (refine A.guard rfl ?_ ?_ <;> intro hc) | refine A.append (n := xs.length) rfl rfl rfl rfl rfl rfl rfl rfl (List.length_map ..) rfl (by dsimp only [List.length_cons, List.length_nil]; omega) (by dsimp only [List.length_cons, List.length_nil]; omega) rfl ?_ | fail
          exact ⟨h2, ⟨rfl, rfl, by unfold addNew; rw [hst, List.map_append]; rfl, rfl, rfl, rfl, trivial⟩, by simp [-List.map_take, belowS, AV.low, AV.lowL, AV.low_of_closed, Sch.closed], by simp [belowB, belowT, Ob.low, Tok.low], by unfold addNew; rw [hst, List.length_append]; rfl, trivial⟩
      · have d2 : decide ((j : Int) < (m.length : Int)) = false := by simp; omega
        obtain rfl : j = m.length := by omega
        have hbb := cnt_addAll (U := allTs s) (l := l) (xs := m) hUm
        obtain ⟨r, hr⟩ := addAll_pre m l
        rw [List.take_length]
        refine .go ?_
        refine ⟨N - (i + 1), by omega, [(5, .int .i64 ((i + 1 : Nat) : Int)), (4, .slice ((m.foldl addNew l).map AV.str) (.own 0 1)), (3, .int .i64 k), (1, .rptr s.enc)], ⟨rfl, rfl, rfl, rfl, trivial⟩, by simp [belowS, AV.low, AV.lowL, AV.low_of_closed, Sch.closed], by simp [belowB, belowT, Ob.low, Tok.low],
          i + 1, m.foldl addNew l, rfl, by rw [hr, List.length_append]; omega, by omega, hstep, rfl, rfl⟩
    · have d1 : decide ((i : Int) < (l.length : Int)) = false := by simp; omega
      obtain rfl : i = l.length := by omega
      have hRl : R = l := by
        rw [← hcl]
        cases N - l.length with
        | zero => rw [closeF]
        | succ n => rw [closeF, List.getElem?_eq_none (Nat.le_refl _)]
      rw [hRl] at hnxk hspk
      have hct := rHas l d.name (by omega)
      have hwk : WeakL [.slice (l.map AV.str) (.own 0 1), .str d.name] [.slice (l.map AV.str) .no, .str d.name] := WeakL.cons (Weak.no (WeakL.refl _)) (WeakL.refl _)
      cases c : decide (d.name ∈ l) <;> rw [c] at hct hnxk hspk
      · have hj' := hnxk rfl
        repeat' first | refine A.call rfl hct hwk ?_ | refine .s1 ?_ | (refine .cond rfl ?_ ?_ <;> intro hc) | (refine A.guard rfl ?_ ?_ <;> intro hc) | fail
        exact ⟨hk, ⟨rfl, rfl, trivial⟩, by simp [belowS, AV.low, AV.low_of_closed, Sch.closed, Dfn.closed, Fld.closed, Par.closed], rfl, rfl, hj'⟩
      · have ha := hspk rfl
        rw [ha]
        repeat' first | refine A.call rfl hct hwk ?_ | refine .s1 ?_ | (refine .cond rfl ?_ ?_ <;> intro hc) | (refine A.guard rfl ?_ ?_ <;> intro hc) | fail
        exact Fin.ret1 rfl (Weak.refl _)
  · have dk : decide ((k : Int) < (s.defs.length : Int)) = false := by simp; omega
    obtain rfl : k = s.defs.length := by omega
    rw [List.take_length] at hjk
    rw [hjk]
    refine .go ?_
    exact Fin.ret1 rfl (Weak.refl _)
theorem rRule9 (s : Sch) (hs : s.size ≤ 1048576) (ho : s.ok) : PFn Tryz.prog 58 [s.enc] (.bool (dfltsB s)) := by
  have hl := s.len
  refine AFn.plain rfl (by simp [AV.closed, AV.closedL, Sch.closed]) (AFn.enter [2] Tryz.func58 rfl rfl rfl rfl rfl (by decide) ?_)
  rw [show (dfltsB s) = s.defs.all (fun d => rightB s d.params && ((!d.params.any fun p => p.has && !leafB s p.t.name) && d.fields.all fun f => rightB s f.params)) from by
      unfold dfltsB
      rw [every_all]
      congr 1
      funext d
      unfold dflts1
      congr 1
      congr 1
      exact anyN _ _]
  refine .gob ?_
  refine HCode.forK s.defs.length (fun k => [(3, .int .i64 k), (1, .rptr s.enc)]) (fun _ => ⟨[], []⟩) (fun k => (s.defs.take k).all (fun d => rightB s d.params && ((!d.params.any fun p => p.has && !leafB s p.t.name) && d.fields.all fun f => rightB s f.params)) = true) ⟨rfl, rfl, trivial⟩ rfl (by simp) fun k hkk hjk => ?_
  by_cases hk : k < s.defs.length
  · have dk : decide ((k : Int) < (s.defs.length : Int)) = true := by simp [hk]
    have xk := map_get' (f := Dfn.enc) hk
    have hmk := List.getElem_mem hk
    have hnxk := all_next (p := fun d => rightB s d.params && ((!d.params.any fun p => p.has && !leafB s p.t.name) && d.fields.all fun f => rightB s f.params)) hk hjk
    have hspk := all_stop (p := fun d => rightB s d.params && ((!d.params.any fun p => p.has && !leafB s p.t.name) && d.fields.all fun f => rightB s f.params)) hk
    try dsimp only at hnxk hspk
    have hdz := Sch.dfn hmk
    generalize hd : s.defs[k] = d at *
    have hdl := d.lens
    have hdm := d.sums
    have g1 := rDefaults9 s d.params hs (by omega)
    have g2 := rLeafDefaults9 s d.params hs (by omega)
    cases c1 : rightB s d.params <;> rw [c1] at g1 hnxk hspk
    · have ha := hspk rfl
      rw [ha]
      refine .gob ?_
      exact Fin.ret1 rfl (Weak.refl _)
    cases c2 : (!d.params.any fun p => p.has && !leafB s p.t.name) <;> rw [c2] at g2 hnxk hspk
    · have ha := hspk rfl
      rw [ha]
      refine .gob ?_
      exact Fin.ret1 rfl (Weak.refl _)
    refine .gob ?_
    refine HCode.forK d.fields.length (fun j => [(4, .int .i64 j), (3, .int .i64 k), (1, .rptr s.enc)]) (fun _ => ⟨[], []⟩) (fun j => (d.fields.take j).all (fun f => rightB s f.params) = true) ⟨rfl, rfl, rfl, trivial⟩ rfl (by simp) fun j hkj hjj => ?_
    by_cases hj : j < d.fields.length
    · have dj : decide ((j : Int) < (d.fields.length : Int)) = true := by simp [hj]
      have xj := map_get' (f := Fld.enc) hj
      have hmj := List.getElem_mem hj
      have hnxj := all_next (p := fun f => rightB s f.params) hj hjj
      have hspj := all_stop (p := fun f => rightB s f.params) hj
      try dsimp only at hnxj hspj
      have z := sumSize_mem (size := Fld.size) hmj
      generalize hf : d.fields[j] = f at *
      have z2 := f.sums
      have q := rDefaults9 s f.params hs (by omega)
      cases c : rightB s f.params <;> rw [c] at q hnxj hspj
      · have hi := hspj rfl
        have ha := hspk (by rw [hi]; rfl)
        rw [ha]
        refine .go ?_
        exact Fin.ret1 rfl (Weak.refl _)
      have hj' := hnxj rfl
      refine .go ?_
      exact ⟨hj, ⟨rfl, rfl, rfl, trivial⟩, by simp [belowS, AV.low, AV.low_of_closed, Sch.closed, Dfn.closed, Fld.closed, Par.closed], rfl, rfl, hj'⟩
    · have dj : decide ((j : Int) < (d.fields.length : Int)) = false := by simp; omega
      obtain rfl : j = d.fields.length := by omega
      rw [List.take_length] at hjj
      have hj' := hnxk (by rw [hjj]; rfl)
      refine .go ?_
      exact ⟨hk, ⟨rfl, rfl, trivial⟩, by simp [belowS, AV.low, AV.low_of_closed, Sch.closed, Dfn.closed, Fld.closed, Par.closed], rfl, rfl, hj'⟩
  · have dk : decide ((k : Int) < (s.defs.length : Int)) = false := by simp; omega
    obtain rfl : k = s.defs.length := by omega
    rw [List.take_length] at hjk
    rw [hjk]
    refine .go ?_
    exact Fin.ret1 rfl (Weak.refl _)
theorem rRule (s : Sch) (n : Int) (hs : s.size ≤ 1048576) (ho : s.ok) : PFn Tryz.prog 26 [s.enc, .int .i64 n] (.bool (ruleR s n)) := by
  have h1 := rRule1 s hs ho
  have h2 := rObject9 s s.query hs
  have h2b := rObject9 s s.mutation hs
  have h3 := rRule3 s hs ho
  have h4 := rRule4 s hs ho
  have h5 := rRule5 s hs ho
  have h6 := rRule6 s hs ho
  have h7 := rRule7 s hs ho
  have h8 := rRule8 s hs ho
  have h9 := rRule9 s hs ho
  refine AFn.plain rfl (by simp [AV.closed, AV.closedL, Sch.closed]) (AFn.enter [4] Tryz.func26 rfl rfl rfl rfl rfl (by decide) ?_)
  unfold ruleR ruleB rootsB
  by_cases k1 : n = 1
  · subst k1
    refine .gob ?_
    exact Fin.ret1 rfl (Weak.refl _)
  have q1 : (n == 1) = false := by simp [k1]
  by_cases k2 : n = 2
  · subst k2
    rw [if_neg (by decide), if_neg (by decide), if_neg (by decide), if_pos rfl]
    cases c1 : kindB s s.query [1] <;> rw [c1] at h2
    · refine .gob ?_
      exact Fin.ret1 rfl (Weak.refl _)
    cases c2 : (s.mutation == [])
    · cases c3 : (s.mutation != s.query)
      all_goals
        refine .gob ?_
        exact Fin.ret1 rfl (Weak.refl _)
    · refine .gob ?_
      exact Fin.ret1 rfl (Weak.refl _)
  have q2 : (n == 2) = false := by simp [k2]
  by_cases k3 : n = 3
  · subst k3
    refine .gob ?_
    exact Fin.ret1 rfl (Weak.refl _)
  have q3 : (n == 3) = false := by simp [k3]
  by_cases k4 : n = 4
  · subst k4
    refine .gob ?_
    exact Fin.ret1 rfl (Weak.refl _)
  have q4 : (n == 4) = false := by simp [k4]
  by_cases k5 : n = 5
  · subst k5
    refine .gob ?_
    exact Fin.ret1 rfl (Weak.refl _)
  have q5 : (n == 5) = false := by simp [k5]
  by_cases k6 : n = 6
  · subst k6
    refine .gob ?_
    exact Fin.ret1 rfl (Weak.refl _)
  have q6 : (n == 6) = false := by simp [k6]
  by_cases k7 : n = 7
  · subst k7
    refine .gob ?_
    exact Fin.ret1 rfl (Weak.refl _)
  have q7 : (n == 7) = false := by simp [k7]
  by_cases k8 : n = 8
  · subst k8
    refine .gob ?_
    exact Fin.ret1 rfl (Weak.refl _)
  have q8 : (n == 8) = false := by simp [k8]
  by_cases k9 : n = 9
  · subst k9
    refine .gob ?_
    exact Fin.ret1 rfl (Weak.refl _)
  have q9 : (n == 9) = false := by simp [k9]
  rw [if_neg k6, if_neg k8, if_neg k1, if_neg k2, if_neg k3, if_neg k4, if_neg k5, if_neg k6, if_neg k7, if_neg k8, if_neg k9]
  refine .gob ?_
  exact Fin.ret1 rfl (Weak.refl _)
theorem rCheck9 (s : Sch) (hs : s.size ≤ 1048576) (ho : s.ok) : PFn Tryz.prog 10 [s.enc] (.int .i64 (checkI s)) := by
  refine AFn.plain rfl (by simp [AV.closed, AV.closedL, Sch.closed]) (AFn.enter [2] Tryz.func10 rfl rfl rfl rfl rfl (by decide) ?_)
  rw [← checkR_eq]
  refine .gob ?_
  refine HCode.forK 9 (fun k => [(3, .int .i64 ((k : Int) + 1)), (1, .rptr s.enc)]) (fun _ => ⟨[], []⟩) (fun k => checkRF s 9 1 = checkRF s (9 - k) ((k : Int) + 1)) ⟨rfl, rfl, trivial⟩ rfl rfl fun k hk hp => ?_
  by_cases h1 : k < 9
  · have d1 : decide ((k : Int) + 1 ≤ 9) = true := decide_eq_true (by omega)
    have hr := rRule s ((k : Int) + 1) hs ho
    have e : checkRF s (9 - k) ((k : Int) + 1) = if ruleR s ((k : Int) + 1) = true then checkRF s (9 - (k + 1)) ((k : Int) + 1 + 1) else (k : Int) + 1 := by
      rw [show 9 - k = (9 - (k + 1)) + 1 by omega, checkRF]
    cases c : ruleR s ((k : Int) + 1) <;> rw [c] at hr e
    · rw [if_neg (by decide)] at e
      rw [hp, e]
      refine .gob ?_
      exact Fin.ret1 rfl (Weak.refl _)
    · rw [if_pos rfl] at e
      refine .gob ?_
      exact ⟨h1, ⟨rfl, rfl, trivial⟩, by simp [belowS, AV.low, AV.low_of_closed, Sch.closed], rfl, rfl, by rw [hp, e]; rfl⟩
  · have d1 : decide ((k : Int) + 1 ≤ 9) = false := decide_eq_false (by omega)
    obtain rfl : k = 9 := by omega
    refine .gob ?_
    refine Fin.ret1 rfl (Weak.eq ?_)
    rw [hp]; rfl
end Go.Proofs.YtgghkkeejagfkaaGreatDoor
namespace Go.Proofs.YtgghkkeejagfkaaGreatDoor
open Go Go.Av
mutual
theorem sameV_refl0 : ∀ v : Val, sameV v v = true
  | .mk k n s l m => by rw [sameV, sameL_refl0 l, sameM_refl0 m]; simp
theorem sameL_refl0 : ∀ l : List Val, sameL l l = true
  | [] => by rw [sameL]
  | v :: l => by rw [sameL, sameV_refl0 v, sameL_refl0 l]; rfl
theorem sameM_refl0 : ∀ l : List Mem, sameM l l = true
  | [] => by rw [sameM]
  | .mk n v :: l => by rw [sameM, sameV_refl0 v, sameM_refl0 l]; simp
end
end Go.Proofs.YtgghkkeejagfkaaGreatDoor
namespace Go.Proofs.YtgghkkeejagfkaaGreatDoor
open Go Go.Av
attribute [local irreducible] HCode AOps PFn AFn Av.Step TStep
theorem typ_self (p : Typ) : eqFs Tryz.prog typeFs2 0 [.str p.name, .int .i64 p.lists, .int .i64 p.musts] [.str p.name, .int .i64 p.lists, .int .i64 p.musts] = some true := by
  have : eqFs Tryz.prog typeFs2 0 [.str p.name, .int .i64 p.lists, .int .i64 p.musts] [.str p.name, .int .i64 p.lists, .int .i64 p.musts] = some (p.name == p.name && (p.lists == p.lists && (p.musts == p.musts && true))) := rfl
  rw [this]; simp
theorem eqTexts (l : List Str) (hl : l.length ≤ 68719476736) : PFn Tryz.prog 59 [.slice (l.map AV.str) .no, .slice (l.map AV.str) .no] (.bool true) := by
  refine AFn.plain rfl (by simp [AV.closed, AV.closedL, str_closedL]) (AFn.enter [4] Tryz.func59 rfl rfl rfl rfl rfl (by decide) ?_)
  have n0 : ((l.length : Int) != (l.length : Int)) = false := bne_self_eq_false _
  refine .go ?_
  refine HCode.forK l.length (fun k => [(5, .int .i64 k), (1, .slice (l.map AV.str) .no), (0, .slice (l.map AV.str) .no)]) (fun _ => ⟨[], []⟩) (fun k => True) ⟨rfl, rfl, rfl, trivial⟩ rfl trivial fun k hk hj => ?_
  by_cases h1 : k < l.length
  · have d1 : decide ((k : Int) < (l.length : Int)) = true := by simp [h1]
    have x1 := map_get' (f := AV.str) h1
    have n1 : (l[k] != l[k]) = false := bne_self_eq_false _
    refine .go ?_
    exact ⟨h1, ⟨rfl, rfl, rfl, trivial⟩, by simp [belowS, AV.low, AV.low_of_closed, Sch.closed, Dfn.closed, Fld.closed], rfl, rfl, trivial⟩
  · have d1 : decide ((k : Int) < (l.length : Int)) = false := by simp; omega
    refine .go ?_
    exact Fin.ret1 rfl (Weak.refl _)
theorem eqParams (l : List Par) (hl : l.length ≤ 68719476736) : PFn Tryz.prog 60 [.slice (l.map Par.enc) .no, .slice (l.map Par.enc) .no] (.bool true) := by
  refine AFn.plain rfl (by simp [AV.closed, AV.closedL, Par.closedL]) (AFn.enter [4] Tryz.func60 rfl rfl rfl rfl rfl (by decide) ?_)
  have n0 : ((l.length : Int) != (l.length : Int)) = false := bne_self_eq_false _
  refine .go ?_
  refine HCode.forK l.length (fun k => [(5, .int .i64 k), (1, .slice (l.map Par.enc) .no), (0, .slice (l.map Par.enc) .no)]) (fun _ => ⟨[], []⟩) (fun k => True) ⟨rfl, rfl, rfl, trivial⟩ rfl trivial fun k hk hj => ?_
  by_cases h1 : k < l.length
  · have d1 : decide ((k : Int) < (l.length : Int)) = true := by simp [h1]
    have x1 := map_get' (f := Par.enc) h1
    generalize l[k] = p at *
    have n1 : (p.name != p.name) = false := bne_self_eq_false _
    have n2 := typ_self p.t
    have n3 : (p.has != p.has) = false := bne_self_eq_false _
    have h3 := sameAny p.d p.d
    rw [sameV_refl0] at h3
    repeat' first | refine .s1 ?_ | (refine .cond rfl ?_ ?_ <;> intro hc) | (refine A.guard rfl ?_ ?_ <;> intro hc) | refine A.neT eq_type2 rfl rfl n2 ?_ | refine A.call rfl h3 (WeakL.cons weak_flatV (WeakL.cons weak_flatV (WeakL.refl _))) ?_ | refine A.neb rfl rfl rfl n3 ?_ | fail
    exact ⟨h1, ⟨rfl, rfl, rfl, trivial⟩, by simp [belowS, AV.low, AV.low_of_closed, Sch.closed, Dfn.closed, Fld.closed], rfl, rfl, trivial⟩
  · have d1 : decide ((k : Int) < (l.length : Int)) = false := by simp; omega
    refine .go ?_
    exact Fin.ret1 rfl (Weak.refl _)
theorem eqDirs (l : List Dirc) (hl : l.length ≤ 68719476736) : PFn Tryz.prog 141 [.slice (l.map Dirc.enc) .no, .slice (l.map Dirc.enc) .no] (.bool true) := by
  refine AFn.plain rfl (by simp [AV.closed, AV.closedL, Dirc.closedL]) (AFn.enter [4] Tryz.func141 rfl rfl rfl rfl rfl (by decide) ?_)
  have n0 : ((l.length : Int) != (l.length : Int)) = false := bne_self_eq_false _
  refine .go ?_
  refine HCode.forK l.length (fun k => [(5, .int .i64 k), (1, .slice (l.map Dirc.enc) .no), (0, .slice (l.map Dirc.enc) .no)]) (fun _ => ⟨[], []⟩) (fun k => True) ⟨rfl, rfl, rfl, trivial⟩ rfl trivial fun k hk hj => ?_
  by_cases h1 : k < l.length
  · have d1 : decide ((k : Int) < (l.length : Int)) = true := by simp [h1]
    have x1 := map_get' (f := Dirc.enc) h1
    generalize l[k] = d at *
    have n1 : (d.name != d.name) = false := bne_self_eq_false _
    have h3 := membersAny d.args d.args
    rw [sameM_refl0] at h3
    refine .go ?_
    exact ⟨h1, ⟨rfl, rfl, rfl, trivial⟩, by simp [belowS, AV.low, AV.low_of_closed, Sch.closed, Dfn.closed, Fld.closed], rfl, rfl, trivial⟩
  · have d1 : decide ((k : Int) < (l.length : Int)) = false := by simp; omega
    refine .go ?_
    exact Fin.ret1 rfl (Weak.refl _)
theorem eqField (f : Fld) (hf : f.size ≤ 68719476736) : PFn Tryz.prog 61 [f.enc, f.enc] (.bool true) := by
  have hs := f.sums
  have hl1 := sumSize_length Par.size_pos f.params
  have hl2 := sumSize_length (size := Dirc.size) (fun d => by unfold Dirc.size; omega) f.dirs
  have h1 := eqParams f.params (by omega)
  have h2 := eqDirs f.dirs (by omega)
  have n1 : (f.name == f.name) = true := beq_self_eq_true _
  have n2 := typ_self f.t
  refine AFn.plain rfl (by simp [AV.closed, AV.closedL, Fld.closed]) (AFn.enter [4] Tryz.func61 rfl rfl rfl rfl rfl (by decide) ?_)
  repeat' first | refine .br ?_ | refine .s1 ?_ | (refine .cond rfl ?_ ?_ <;> intro hc) | (refine A.guard rfl ?_ ?_ <;> intro hc) | refine A.eqT eq_type2 rfl rfl n2 ?_ | fail
  exact Fin.ret1 rfl (Weak.refl _)
theorem eqDef (d : Dfn) (hd : d.size ≤ 68719476736) : PFn Tryz.prog 27 [d.enc, d.enc] (.bool true) := by
  have hs := d.sums
  have hl := d.lens
  have h1 := eqTexts d.faces (by omega)
  have h2 := eqTexts d.parts (by omega)
  have h3 := eqParams d.params (by omega)
  have n1 : (d.kind != d.kind) = false := bne_self_eq_false _
  have n2 : (d.name != d.name) = false := bne_self_eq_false _
  have n0 : ((d.fields.length : Int) != (d.fields.length : Int)) = false := bne_self_eq_false _
  refine AFn.plain rfl (by simp [AV.closed, AV.closedL, Dfn.closed]) (AFn.enter [4] Tryz.func27 rfl rfl rfl rfl rfl (by decide) ?_)
  refine .gob ?_
  refine HCode.forK d.fields.length (fun k => [(5, .int .i64 k), (3, .rptr d.enc), (2, .rptr d.enc)]) (fun _ => ⟨[], []⟩) (fun k => True) ⟨rfl, rfl, rfl, trivial⟩ rfl trivial fun k hk hj => ?_
  by_cases hk1 : k < d.fields.length
  · have d1 : decide ((k : Int) < (d.fields.length : Int)) = true := by simp [hk1]
    have x1 := map_get' (f := Fld.enc) hk1
    have hz := sumSize_mem (size := Fld.size) (List.getElem_mem hk1)
    have h4 := eqField d.fields[k] (by omega)
    refine .go ?_
    exact ⟨hk1, ⟨rfl, rfl, rfl, trivial⟩, by simp [belowS, AV.low, AV.low_of_closed, Sch.closed, Dfn.closed, Fld.closed], rfl, rfl, trivial⟩
  · have d1 : decide ((k : Int) < (d.fields.length : Int)) = false := by simp; omega
    refine .go ?_
    exact Fin.ret1 rfl (Weak.refl _)
theorem eqSchema (s : Sch) (hs : s.size ≤ 68719476736) : PFn Tryz.prog 11 [s.enc, s.enc] (.bool true) := by
  have hl := s.len
  have n1 : (s.query != s.query) = false := bne_self_eq_false _
  have n2 : (s.mutation != s.mutation) = false := bne_self_eq_false _
  have n0 : ((s.defs.length : Int) != (s.defs.length : Int)) = false := bne_self_eq_false _
  refine AFn.plain rfl (by simp [AV.closed, AV.closedL, Sch.closed]) (AFn.enter [4] Tryz.func11 rfl rfl rfl rfl rfl (by decide) ?_)
  refine .gob ?_
  refine HCode.forK s.defs.length (fun k => [(5, .int .i64 k), (3, .rptr s.enc), (2, .rptr s.enc)]) (fun _ => ⟨[], []⟩) (fun k => True) ⟨rfl, rfl, rfl, trivial⟩ rfl trivial fun k hk hj => ?_
  by_cases h1 : k < s.defs.length
  · have d1 : decide ((k : Int) < (s.defs.length : Int)) = true := by simp [h1]
    have x1 := map_get' (f := Dfn.enc) h1
    have hz := Sch.dfn (List.getElem_mem h1)
    have h4 := eqDef s.defs[k] (by omega)
    refine .go ?_
    exact ⟨h1, ⟨rfl, rfl, rfl, trivial⟩, by simp [belowS, AV.low, AV.low_of_closed, Sch.closed, Dfn.closed, Fld.closed], rfl, rfl, trivial⟩
  · have d1 : decide ((k : Int) < (s.defs.length : Int)) = false := by simp; omega
    refine .go ?_
    exact Fin.ret1 rfl (Weak.refl _)
end Go.Proofs.YtgghkkeejagfkaaGreatDoor
namespace Go.Av
open Go
section
variable [Globals]
variable {P : Program} [Lay P] {all : Array Oper} {draw : Bool} {K : AX → Slots → St → Prop} {rest : List Oper} {acc : List Tag} {s : Slots} {σ : St}
variable {d : Tmp} {ty : TypeId} {pos : String} {af : Array Edge}
theorem A.append_r {T : TypeId} {x y : Operand} {ys : List AV} {t t' : Tk} {n : Nat} {ti te : TI} (hT : ty? P T = some ti) (hk : ti.kind = .slice) (hE : ty? P ti.elem = some te) (hz0 : Nat.blt 0 te.size = true)
    (hx : ev? s x = some (.slice [] t')) (ht : t'.fresh = true) (hy : ev? s y = some (.slice ys t)) (hn : ys.length = n) (hc : AV.closedL ys = true) (hf : fitsAll te.agg te.size ys = true)
    (hb : n * te.bytes ≤ 140737488355328) (hb' : n ≤ 4611686018427387904)
    (kk : AOps P all draw K rest (.pure :: acc) ((d, .slice ys .no) :: s) σ) : AOps P all draw K (⟨some d, .call ⟨.builtin .append, #[x, y], #[T, T]⟩, ty, pos, af, none⟩ :: rest) acc s σ :=
  A.step (t := .pure) rfl ⟨rfl, fun τ => by
    intro g w a next Q hI ho hn'
    subst hn
    have h1 := op1 hx (by simp [Op.operands, Call.operands]) ho
    have h2 := op1 hy (by simp [Op.operands, Call.operands]) ho
    have h1' : Rep ⟨[], [], g.im⟩ w (.slice [] t') (a.eval x) := Rep.close (bx := g.bx) (tk := g.tk) _ _ (by cases t' <;> first | rfl | cases ht) h1
    have h2' : Rep ⟨[], [], g.im⟩ w (.slice ys .no) (a.eval y) := Rep.close (bx := g.bx) (tk := g.tk) _ _ (by simp [AV.closed, hc]) (Weak.no (WeakL.refl _) _ _ _ h2)
    have hi0 : Inv ⟨[], [], g.im⟩ ⟨[], []⟩ w := ⟨rfl, rfl, fun i b ob h => by simp at h, List.nodup_nil, fun b h => by simp at h, fun k t r h => by simp at h, fun k r h => by simp at h,
      fun k k' r r' _ h => by simp at h, hI.imlt, hI.gl⟩
    obtain ⟨g1, e1, e2, e3⟩ := adopt_sem (σ := ⟨[], []⟩) (agg := te.agg) (z := te.size) ht rfl hi0 h1'
    obtain ⟨Ys, hsrc⟩ := src_of (Rep.mono e1.le _ _ h2') hf
    obtain ⟨v, w', g', f1, f2, f3, f4⟩ := append_own_sem (σ := ⟨[], [.len 0]⟩) (ty := ty) (n := 0) (k := 0) hT hk hE rfl (Nat.le_of_ble_eq_true hz0) e2 e3 hsrc rfl rfl (by rw [Nat.zero_add]; exact hb) (by rw [Nat.zero_add]; exact hb')
    unfold Oper.wp
    rw [run_append_op f1]
    have e := e1.trans f2
    obtain ⟨bx', tk', im'⟩ := g'
    have e' : Ext ⟨[], [], g.im⟩ w ⟨[], [], im'⟩ w' := ⟨⟨e.le.im, fun i b h => by simp at h, fun k r h => by simp at h⟩, e.size, e.os, e.tape, e.output, e.fr, e.frc, e.newim, fun b h => by simp at h, fun k r h => by simp at h⟩
    obtain ⟨h4, h5⟩ := bare_ext hI e' f3.imlt
    refine hn' v w' _ h4 h5 ?_
    have f5 : Rep ⟨[], [], im'⟩ w' (.slice ys .no) v := Rep.close (bx := bx') (tk := tk') _ _ (by simp [AV.closed, hc]) (Weak.no (WeakL.refl _) _ _ _ f4)
    exact Rep.mono (g := ⟨[], [], im'⟩) (w := w') (g' := ⟨g.bx, g.tk, im'⟩) (w' := w') ⟨fun _ _ h => ⟨h, rfl⟩, fun _ _ h => by simp at h, fun _ _ h => by simp at h⟩ _ _ f5⟩ kk
theorem HCode.lessO {N : Nat} {D : List Deferred} {c : Code} (tm : Nat) {xs : List AV} {k z : Nat} (hx : lk? s tm = some (.slice xs (.own k z))) (h : HCode P N D c K ((tm, .slice xs .no) :: s) σ) : HCode P N D c K s σ :=
  HCode.less tm hx (Weak.no (WeakL.refl _)) h
end
end Go.Av
namespace Go.Proofs.YtgghkkeejagfkaaGreatDoor
open Go Go.Av
attribute [local irreducible] HCode AOps PFn AFn Av.Step TStep
theorem take_enc' {α : Type} {f : α → AV} {l : List α} {j : Nat} (h : j < l.length) : (l.take j).map f ++ [f l[j]] = (l.take (j + 1)).map f := by
  rw [List.take_succ_eq_append_getElem h, List.map_append]; rfl
theorem membersC (N : Nat) (ih : ∀ v : Val, v.size ≤ N → PFn Tryz.prog 123 [v.enc] v.enc) (l : List Mem) (hl : l.length ≤ 1048576) (hs : ∀ x ∈ l, x.v.size ≤ N) :
    PFn Tryz.prog 49 [.slice (l.map Mem.enc) .no] (.slice (l.map Mem.enc) .no) := by
  refine AFn.plain (by simp [AV.closed, Mem.closedL]) (by simp [AV.closedL, AV.closed, Mem.closedL]) (AFn.enter [2] Tryz.func49 rfl rfl rfl rfl rfl (by decide) ?_)
  repeat' first | refine .seq ?_ | refine .rg ?_ | refine .rd ?_ | refine .block ?_ | refine .scope ?_ | refine .skip ?_ | refine .label ?_ | refine .exit ?_ | refine .ret ?_ | refine .ct ?_ | refine .cf ?_ | refine .cy ?_ | refine .cn ?_ | (refine .cond rfl ?_ ?_ <;> intro hc) | refine A.nil_seq ?_ | refine .nl ?_ | refine .dd ?_ | refine .ys ?_ | refine .no ?_ | (refine A.guard rfl ?_ ?_ <;> intro hc) | refine .lb ?_ | refine .ln ?_ | refine .ls ?_ | refine .pv ?_ | refine .ix ?_ | refine .pt ?_ | refine .pf ?_ | refine .bx ?_ | refine .al ?_ | refine .st ?_ | refine .ad ?_ | refine .sb ?_ | refine .mf ?_ | refine .cl ?_ | refine .cw ?_ | refine .ck ?_ | fail
  change HCode _ _ _ _ _ _ _
  refine HCode.adopt 3 true 6 rfl rfl rfl rfl rfl rfl ?_
  refine HCode.loop (fun n s σ => ∃ k : Nat, n = l.length - k ∧ k ≤ l.length ∧ σ = ⟨[], [.len k]⟩ ∧ s = [(4, .int .i64 k), (3, .slice ((l.take k).map Mem.enc) (.own 0 6)), (0, .slice (l.map Mem.enc) .no)])
    (s0 := [(4, .int .i64 (0 : Nat)), (3, .slice ((l.take 0).map Mem.enc) (.own 0 6)), (0, .slice (l.map Mem.enc) .no)]) ⟨rfl, rfl, rfl, trivial⟩ ⟨0, rfl, Nat.zero_le _, rfl, rfl⟩ ?_
  rintro n s σ ⟨k, rfl, hk, rfl, rfl⟩
  have htl : ((l.take k).map Mem.enc).length = k := by simp; omega
  by_cases h1 : k < l.length
  · have d1 : decide ((k : Int) < (l.length : Int)) = true := by simp [h1]
    have x1 := map_get' (f := Mem.enc) h1
    have hcc := ih l[k].v (hs _ (List.getElem_mem h1))
    repeat' first | refine .seq ?_ | refine .rg ?_ | refine .rd ?_ | refine .block ?_ | refine .scope ?_ | refine .skip ?_ | refine .label ?_ | refine .exit ?_ | refine .ret ?_ | refine .ct ?_ | refine .cf ?_ | refine .cy ?_ | refine .cn ?_ | (refine .cond rfl ?_ ?_ <;> intro hc) | refine A.nil_seq ?_ | refine .nl ?_ | refine .dd ?_ | refine .ys ?_ | refine .no ?_ | (refine A.guard rfl ?_ ?_ <;> intro hc) | refine .lb ?_ | refine .ln ?_ | refine .ls ?_ | refine .pv ?_ | refine .ix ?_ | refine .pt ?_ | refine .pf ?_ | refine .bx ?_ | refine .al ?_ | refine .st ?_ | refine .ad ?_ | refine .sb ?_ | refine .mf ?_ | refine .cl ?_ | refine .cw ?_ | refine .ck ?_ | refine A.call rfl hcc (WeakL.refl _) ?_ | refine A.append (n := k) rfl rfl rfl rfl rfl rfl rfl rfl htl rfl (by dsimp only [List.length_cons, List.length_nil]; omega) (by dsimp only [List.length_cons, List.length_nil]; omega) rfl ?_ | fail
    refine ⟨l.length - (k + 1), by omega, [(4, .int .i64 ((k + 1 : Nat) : Int)), (3, .slice ((l.take (k + 1)).map Mem.enc) (.own 0 6)), (0, .slice (l.map Mem.enc) .no)],
      ⟨rfl, ?_, rfl, trivial⟩, by simp [-List.map_take, belowS, AV.low, Mem.lowL], rfl, k + 1, rfl, by omega, rfl, rfl⟩
    rw [← take_enc' h1]
    rfl
  · have d1 : decide ((k : Int) < (l.length : Int)) = false := by simp; omega
    repeat' first | refine .seq ?_ | refine .rg ?_ | refine .rd ?_ | refine .block ?_ | refine .scope ?_ | refine .skip ?_ | refine .label ?_ | refine .exit ?_ | refine .ret ?_ | refine .ct ?_ | refine .cf ?_ | refine .cy ?_ | refine .cn ?_ | (refine .cond rfl ?_ ?_ <;> intro hc) | refine A.nil_seq ?_ | refine .nl ?_ | refine .dd ?_ | refine .ys ?_ | refine .no ?_ | (refine A.guard rfl ?_ ?_ <;> intro hc) | refine .lb ?_ | refine .ln ?_ | refine .ls ?_ | refine .pv ?_ | refine .ix ?_ | refine .pt ?_ | refine .pf ?_ | refine .bx ?_ | refine .al ?_ | refine .st ?_ | refine .ad ?_ | refine .sb ?_ | refine .mf ?_ | refine .cl ?_ | refine .cw ?_ | refine .ck ?_ | fail
    refine Fin.ret1 rfl (Weak.no (WeakL.eq ?_))
    rw [List.take_of_length_le (by omega)]
theorem copy_aux : ∀ (N : Nat) (v : Val), v.size ≤ N → N ≤ 1048576 → PFn Tryz.prog 123 [v.enc] v.enc
  | 0, v, h, _ => by have := v.size_pos; omega
  | N + 1, v, h, hN => by
    have ih := fun (x : Val) (hx : x.size ≤ N) => copy_aux N x hx (by omega)
    have hm := membersC N ih v.m (by have := v.m_len; omega) (fun x hx => by
      have := sumSize_mem (size := Mem.size) hx
      have h2 : x.size = x.name.length + 2 + x.v.size := rfl
      have := v.size_eq
      omega)
    have hll := v.lv_len
    have la := v.l_len
    rw [← v.mv_eq] at hm
    refine AFn.plain (Val.closed v) (by simp [AV.closedL, Val.closed]) (AFn.enterR [.cell 2 42] Tryz.func123 rfl rfl rfl rfl rfl ?_)
    repeat' first | refine .seq ?_ | refine .rg ?_ | refine .rd ?_ | refine .block ?_ | refine .scope ?_ | refine .skip ?_ | refine .label ?_ | refine .exit ?_ | refine .ret ?_ | refine .ct ?_ | refine .cf ?_ | refine .cy ?_ | refine .cn ?_ | (refine .cond rfl ?_ ?_ <;> intro hc) | refine A.nil_seq ?_ | refine .nl ?_ | refine .dd ?_ | refine .ys ?_ | refine .no ?_ | (refine A.guard rfl ?_ ?_ <;> intro hc) | refine .lb ?_ | refine .ln ?_ | refine .ls ?_ | refine .pv ?_ | refine .ix ?_ | refine .pt ?_ | refine .pf ?_ | refine .bx ?_ | refine .al ?_ | refine .st ?_ | refine .ad ?_ | refine .sb ?_ | refine .mf ?_ | refine .cl ?_ | refine .cw ?_ | refine .ck ?_ | fail
    change HCode _ _ _ _ _ _ _
    refine HCode.adopt 3 true 5 rfl rfl rfl rfl rfl rfl ?_
    refine HCode.loop (fun n s σ => ∃ k : Nat, n = v.l.length - k ∧ k ≤ v.l.length ∧ σ = ⟨[.cells [.int .i64 v.kind, .int .i64 v.n, .str v.s, .slice v.lv .no, .slice v.mv .no], .cells [.int .i64 0, .int .i64 0, .str [], .slice [] .nil, .slice [] .nil]], [.len k]⟩ ∧
        s = [(4, .int .i64 k), (3, .slice ((v.l.take k).map Val.enc) (.own 0 5)), (1, .ptr 0 0), (2, .ptr 1 0)])
      (s0 := [(4, .int .i64 (0 : Nat)), (3, .slice ((v.l.take 0).map Val.enc) (.own 0 5)), (1, .ptr 0 0), (2, .ptr 1 0)]) ⟨rfl, rfl, rfl, rfl, trivial⟩ ⟨0, rfl, Nat.zero_le _, rfl, rfl⟩ ?_
    rintro n s σ ⟨k, rfl, hk, rfl, rfl⟩
    have htl : ((v.l.take k).map Val.enc).length = k := by simp; omega
    by_cases h1 : k < v.l.length
    · have d1 : decide ((k : Int) < (v.lv.length : Int)) = true := by simp [h1, hll]
      have x1 := Val.lv_get h1
      have hcc := ih v.l[k] (by have := Val.size_l h1; omega)
      repeat' first | refine .seq ?_ | refine .rg ?_ | refine .rd ?_ | refine .block ?_ | refine .scope ?_ | refine .skip ?_ | refine .label ?_ | refine .exit ?_ | refine .ret ?_ | refine .ct ?_ | refine .cf ?_ | refine .cy ?_ | refine .cn ?_ | (refine .cond rfl ?_ ?_ <;> intro hc) | refine A.nil_seq ?_ | refine .nl ?_ | refine .dd ?_ | refine .ys ?_ | refine .no ?_ | (refine A.guard rfl ?_ ?_ <;> intro hc) | refine .lb ?_ | refine .ln ?_ | refine .ls ?_ | refine .pv ?_ | refine .ix ?_ | refine .pt ?_ | refine .pf ?_ | refine .bx ?_ | refine .al ?_ | refine .st ?_ | refine .ad ?_ | refine .sb ?_ | refine .mf ?_ | refine .cl ?_ | refine .cw ?_ | refine .ck ?_ | refine A.len rfl rfl rfl rfl ?_ | refine A.call rfl hcc (WeakL.refl _) ?_ | refine A.append (n := k) rfl rfl rfl rfl rfl rfl rfl rfl htl rfl (by dsimp only [List.length_cons, List.length_nil]; omega) (by dsimp only [List.length_cons, List.length_nil]; omega) rfl ?_ | fail
      refine ⟨v.l.length - (k + 1), by omega, [(4, .int .i64 ((k + 1 : Nat) : Int)), (3, .slice ((v.l.take (k + 1)).map Val.enc) (.own 0 5)), (1, .ptr 0 0), (2, .ptr 1 0)],
        ⟨rfl, ?_, rfl, rfl, trivial⟩, by simp [-List.map_take, belowS, AV.low, Val.lowL'], by simp [belowB, belowT, Ob.low, Tok.low, AV.low, AV.lowL, Val.lv_low, Val.mv_low], k + 1, rfl, by omega, rfl, rfl⟩
      rw [← take_enc' h1]
      rfl
    · have d1 : decide ((k : Int) < (v.lv.length : Int)) = false := by simp [hll]; omega
      repeat' first | refine .seq ?_ | refine .rg ?_ | refine .rd ?_ | refine .block ?_ | refine .scope ?_ | refine .skip ?_ | refine .label ?_ | refine .exit ?_ | refine .ret ?_ | refine .ct ?_ | refine .cf ?_ | refine .cy ?_ | refine .cn ?_ | (refine .cond rfl ?_ ?_ <;> intro hc) | refine A.nil_seq ?_ | refine .nl ?_ | refine .dd ?_ | refine .ys ?_ | refine .no ?_ | (refine A.guard rfl ?_ ?_ <;> intro hc) | refine .lb ?_ | refine .ln ?_ | refine .ls ?_ | refine .pv ?_ | refine .ix ?_ | refine .pt ?_ | refine .pf ?_ | refine .bx ?_ | refine .al ?_ | refine .st ?_ | refine .ad ?_ | refine .sb ?_ | refine .mf ?_ | refine .cl ?_ | refine .cw ?_ | refine .ck ?_ | refine A.len rfl rfl rfl rfl ?_ | refine A.call rfl hm (WeakL.refl _) ?_ | fail
      refine FinR.ret1 rfl (Weak.agg (WeakL.cons (Weak.refl _) (WeakL.cons (Weak.refl _) (WeakL.cons (Weak.refl _) (WeakL.cons (Weak.no (WeakL.eq ?_)) (WeakL.refl _))))))
      rw [List.take_of_length_le (by omega), v.lv_eq]
theorem membersK (l : List Mem) (h : sumSize Mem.size l ≤ 1048576) : PFn Tryz.prog 49 [.slice (l.map Mem.enc) .no] (.slice (l.map Mem.enc) .no) :=
  membersC (sumSize Mem.size l) (fun v hv => copy_aux _ v hv h) l (by have := sumSize_length Mem.size_pos l; omega) (fun x hx => by
    have := sumSize_mem (size := Mem.size) hx
    have h2 : x.size = x.name.length + 2 + x.v.size := rfl
    omega)
theorem keepParams (l : List Par) (hl : l.length ≤ 1048640) : PFn Tryz.prog 24 [.slice (l.map Par.enc) .no] (.slice (l.map Par.enc) .no) := by
  have hpm : (l.map Par.enc).length = l.length := List.length_map _
  refine AFn.plain (by simp [AV.closed, Par.closedL]) (by simp [AV.closedL, AV.closed, Par.closedL]) (AFn.enter [2] Tryz.func24 rfl rfl rfl rfl rfl (by decide) ?_)
  repeat' first | refine .s1 ?_ | (refine .cond rfl ?_ ?_ <;> intro hc) | (refine A.guard rfl ?_ ?_ <;> intro hc) | refine A.append_new (n := 0) rfl rfl rfl rfl rfl rfl rfl rfl rfl rfl (Par.fitsAll _) (by rw [hpm]; dsimp only; omega) (by rw [hpm]; omega) rfl ?_ | fail
  exact Fin.ret1 rfl (Weak.no (WeakL.refl _))
theorem Dirc.lowL' (n m : Nat) (l : List Dirc) : AV.lowL n m (l.map Dirc.enc) = true := AV.lowL_of_closed _ _ _ (Dirc.closedL l)
theorem keepDirs (l : List Dirc) (hl : sumSize Dirc.size l ≤ 1048576) : PFn Tryz.prog 25 [.slice (l.map Dirc.enc) .no] (.slice (l.map Dirc.enc) .no) := by
  have hll := sumSize_length (size := Dirc.size) (fun d => by unfold Dirc.size; omega) l
  refine AFn.plain (by simp [AV.closed, Dirc.closedL]) (by simp [AV.closedL, AV.closed, Dirc.closedL]) (AFn.enter [2] Tryz.func25 rfl rfl rfl rfl rfl (by decide) ?_)
  refine .go ?_
  change HCode _ _ _ _ _ _ _
  refine HCode.adopt 3 true 2 rfl rfl rfl rfl rfl rfl ?_
  refine HCode.loop (fun n s σ => ∃ k : Nat, n = l.length - k ∧ k ≤ l.length ∧ σ = ⟨[], [.len k]⟩ ∧ s = [(4, .int .i64 k), (3, .slice ((l.take k).map Dirc.enc) (.own 0 2)), (0, .slice (l.map Dirc.enc) .no)])
    (s0 := [(4, .int .i64 (0 : Nat)), (3, .slice ((l.take 0).map Dirc.enc) (.own 0 2)), (0, .slice (l.map Dirc.enc) .no)]) ⟨rfl, rfl, rfl, trivial⟩ ⟨0, rfl, Nat.zero_le _, rfl, rfl⟩ ?_
  rintro n s σ ⟨k, rfl, hk, rfl, rfl⟩
  have htl : ((l.take k).map Dirc.enc).length = k := by simp; omega
  by_cases h1 : k < l.length
  · have d1 : decide ((k : Int) < (l.length : Int)) = true := by simp [h1]
    have x1 := map_get' (f := Dirc.enc) h1
    have hz := sumSize_mem (size := Dirc.size) (List.getElem_mem h1)
    have hds : (l[k]).size = l[k].name.length + sumSize Mem.size l[k].args + 3 := rfl
    have hcc := membersK l[k].args (by omega)
    repeat' first | refine .s1 ?_ | (refine .cond rfl ?_ ?_ <;> intro hc) | (refine A.guard rfl ?_ ?_ <;> intro hc) | refine A.append (n := k) rfl rfl rfl rfl rfl rfl rfl rfl htl rfl (by dsimp only [List.length_cons, List.length_nil]; omega) (by dsimp only [List.length_cons, List.length_nil]; omega) rfl ?_ | fail
    refine ⟨l.length - (k + 1), by omega, [(4, .int .i64 ((k + 1 : Nat) : Int)), (3, .slice ((l.take (k + 1)).map Dirc.enc) (.own 0 2)), (0, .slice (l.map Dirc.enc) .no)],
      ⟨rfl, ?_, rfl, trivial⟩, by simp [-List.map_take, belowS, AV.low, Dirc.lowL'], rfl, k + 1, rfl, by omega, rfl, rfl⟩
    rw [← take_enc' h1]
    rfl
  · have d1 : decide ((k : Int) < (l.length : Int)) = false := by simp; omega
    refine .go ?_
    refine Fin.ret1 rfl (Weak.no (WeakL.eq ?_))
    rw [List.take_of_length_le (by omega)]
def dcells (d : Dfn) : List AV := [.int .i64 d.kind, .str d.name, .slice (d.faces.map AV.str) .no, .slice (d.fields.map Fld.enc) .no, .slice (d.parts.map AV.str) .no, .slice (d.params.map Par.enc) .no]
def kSch0 : Ob := .cells [.slice [] .nil, .str [], .str []]
theorem keepSchema (s : Sch) (hs : s.size ≤ 1048576) : PFn Tryz.prog 8 [s.enc] s.enc := by
  have hsl := s.len
  refine AFn.plain (Sch.closed s) (by simp [AV.closedL, Sch.closed]) (AFn.enterR [.cell 2 24] Tryz.func8 rfl rfl rfl rfl rfl ?_)
  repeat' first | refine .br ?_ | refine .s1 ?_ | (refine .cond rfl ?_ ?_ <;> intro hc) | (refine A.guard rfl ?_ ?_ <;> intro hc) | fail
  refine HCode.adoptB 1 0 true 6 rfl rfl rfl rfl rfl rfl rfl rfl ?_
  refine HCode.forK s.defs.length (fun k => [(4, .int .i64 k), (1, .rptr s.enc), (2, .ptr 0 0), (3, .ptr 1 0)]) (fun k => ⟨[kSch0, .cells [.slice ((s.defs.take k).map Dfn.enc) (.own 0 6), .str s.query, .str s.mutation]], [.len k]⟩) (fun k => True) ⟨rfl, rfl, rfl, rfl, trivial⟩ rfl trivial fun k hk _ => ?_
  have htl : ((s.defs.take k).map Dfn.enc).length = k := by simp; omega
  by_cases h1 : k < s.defs.length
  · have d1 : decide ((k : Int) < (s.defs.length : Int)) = true := by simp [h1]
    have x1 := map_get' (f := Dfn.enc) h1
    have hz := Sch.dfn (List.getElem_mem h1)
    have hte := take_enc' (f := Dfn.enc) h1
    generalize s.defs[k] = dd at *
    have hdl := dd.lens
    have hds := dd.sums
    have hpp := keepParams dd.params (by omega)
    have hb : AV.lowL 2 1 ((s.defs.take k).map Dfn.enc ++ [Dfn.enc dd]) = true := by rw [hte]; exact lowL_Dfn _ _ _
    repeat' first | refine .s1 ?_ | (refine .cond rfl ?_ ?_ <;> intro hc) | (refine A.guard rfl ?_ ?_ <;> intro hc) | fail
    refine HCode.adopt 6 true 6 rfl rfl rfl rfl rfl rfl ?_
    refine HCode.forK dd.fields.length (fun j => [(7, .int .i64 j), (6, .slice ((dd.fields.take j).map Fld.enc) (.own 1 6)), (5, .ptr 2 0), (4, .int .i64 k), (1, .rptr s.enc), (2, .ptr 0 0), (3, .ptr 1 0)])
      (fun j => ⟨[kSch0, .cells [.slice ((s.defs.take k).map Dfn.enc) (.own 0 6), .str s.query, .str s.mutation], .cells (dcells dd)], [.len k, .len j]⟩) (fun k => True) ⟨rfl, rfl, rfl, rfl, rfl, rfl, rfl, trivial⟩ rfl trivial fun j hj _ => ?_
    have htj : ((dd.fields.take j).map Fld.enc).length = j := by simp; omega
    by_cases h2 : j < dd.fields.length
    · have d2 : decide ((j : Int) < (dd.fields.length : Int)) = true := by simp [h2]
      have x2 := map_get' (f := Fld.enc) h2
      have hzf := sumSize_mem (size := Fld.size) (List.getElem_mem h2)
      have htf := take_enc' (f := Fld.enc) h2
      generalize dd.fields[j] = f at *
      have hfs := f.sums
      have hp1 := keepParams f.params (by have := sumSize_length Par.size_pos f.params; omega)
      have hd1 := keepDirs f.dirs (by omega)
      repeat' first | refine .s1 ?_ | (refine .cond rfl ?_ ?_ <;> intro hc) | (refine A.guard rfl ?_ ?_ <;> intro hc) | refine A.append (n := j) rfl rfl rfl rfl rfl rfl rfl rfl htj rfl (by dsimp only [List.length_cons, List.length_nil]; omega) (by dsimp only [List.length_cons, List.length_nil]; omega) rfl ?_ | fail
      exact ⟨h2, ⟨rfl, by rw [← htf]; rfl, rfl, rfl, rfl, rfl, rfl, trivial⟩, by simp [-List.map_take, belowS, AV.low], by simp [-List.map_take, belowB, belowT, Ob.low, Tok.low, AV.lowL, AV.low, dcells, kSch0], rfl, trivial⟩
    · have d2 : decide ((j : Int) < (dd.fields.length : Int)) = false := by simp; omega
      obtain rfl : j = dd.fields.length := by omega
      rw [List.take_length]
      repeat' first | refine HCode.lessO 6 rfl ?_ | refine A.append_r rfl rfl rfl rfl rfl rfl rfl rfl (str_closedL _) (str_fitsAll _) (by rw [List.length_map]; dsimp only; omega) (by rw [List.length_map]; omega) ?_ | refine .s1 ?_ | (refine .cond rfl ?_ ?_ <;> intro hc) | (refine A.guard rfl ?_ ?_ <;> intro hc) | refine A.append (n := k) rfl rfl rfl rfl rfl rfl rfl rfl htl rfl (by dsimp only [List.length_cons, List.length_nil]; omega) (by dsimp only [List.length_cons, List.length_nil]; omega) rfl ?_ | fail
      exact ⟨h1, ⟨rfl, rfl, rfl, rfl, trivial⟩, by simp [belowS, AV.low], (by simp [-List.map_take, belowB, belowT, Ob.low, Tok.low, AV.lowL, AV.low, dcells, kSch0]; exact hb), by rw [← hte]; rfl, trivial⟩
  · have d1 : decide ((k : Int) < (s.defs.length : Int)) = false := by simp; omega
    obtain rfl : k = s.defs.length := by omega
    rw [List.take_length]
    refine .go ?_
    refine FinR.ret1 rfl (Weak.agg (WeakL.cons (Weak.no (WeakL.refl _)) (WeakL.refl _)))
theorem schemaChecks (s : Sch) (hs : s.size ≤ 1048576) (ho : s.ok) : PFn Tryz.prog 3 [s.enc] (.bool true) := by
  have hL := light8 s (by omega)
  have hw := awake11
  have hc := wCheckS s (by omega) ho
  have hr := rCheck9 s hs ho
  have hk := keepSchema s hs
  have he := eqSchema s (by omega)
  have n1 : (checkI s == checkI s) = true := beq_self_eq_true _
  refine AFn.plain rfl (by simp [AV.closedL, AV.closed, Sch.closed]) (AFn.enter [2] Tryz.func3 rfl rfl rfl rfl rfl (by decide) ?_)
  cases c1 : lightS s <;> rw [c1] at hL
  · refine .gob ?_
    exact Fin.ret1 rfl (Weak.refl _)
  · refine .gob ?_
    exact Fin.ret1 rfl (Weak.refl _)
end Go.Proofs.YtgghkkeejagfkaaGreatDoor
