/-
  Contracts and plain facts for a law, joined.
-/
import Derived.Test.YtmfmdehfbpkgdaaGreatDoorGEvC2
import Derived.Test.YtmfmdehfbpkgdaaGreatDoorGEvC16
set_option maxRecDepth 100000
set_option maxHeartbeats 16000000
set_option linter.unusedVariables false
set_option linter.unusedSimpArgs false
set_option linter.unusedSectionVars false
namespace Go.Proofs.YtmfmdehfbpkgdaaGreatDoor
open Go Go.Av
attribute [local irreducible] HCode AOps PFn AFn Av.Step TStep
theorem named_ref (s : Sch) : ((dNames s).all (fun n => !scalarB n) && (sdlOk s && goodNames (dNames s))) = namedB s := by
  cases h : sdlOk s with
  | false => unfold namedB; rw [h]; simp
  | true =>
    have key : ∀ n ∈ dNames s, kindB s n [0] = scalarB n := fun n hn => by
      unfold kindB findR findO
      cases c : scalarB n with
      | true => simp
      | false =>
        simp only [Bool.false_eq_true, if_false]
        cases e : s.defs.find? (fun d => d.name == n) with
        | none => rfl
        | some d =>
          have hk : d.kind ≠ 0 := fun k0 => by
            have := sdl_dfn h (List.mem_of_find?_eq_some e)
            unfold dfnOk at this
            rw [k0] at this
            simp at this
          simp [hk]
    have e1 : (!(dNames s).any fun n => kindB s n [0]) = (dNames s).all fun n => !scalarB n := by
      rw [Bool.eq_iff_iff, Bool.not_eq_true', List.any_eq_false, List.all_eq_true]
      exact ⟨fun h n hn => by have := h n hn; rw [key n hn] at this; simpa using this, fun h n hn => by have := h n hn; rw [key n hn]; simpa using this⟩
    unfold namedB goodNames
    rw [h, e1]
    cases (dNames s).all (fun n => !scalarB n) <;> cases onceB (dNames s) <;> cases foreignB (dNames s) <;> rfl
theorem dNames_size (s : Sch) : strsSize (dNames s) ≤ s.size + 1 := by
  have := strs_le (g := Dfn.name) (size := Dfn.size) (fun d => by unfold Dfn.size; omega) s.defs
  unfold dNames
  unfold Sch.size; omega
theorem rRule1 (s : Sch) (hs : s.size ≤ 1048576) (ho : s.ok) : PFn Tryz.prog 41 [s.enc] (.bool (namedB s)) := by
  have hdn : (dNames s).length ≤ 1048576 := by unfold dNames; rw [List.length_map]; have := s.len; omega
  have g1 := rDefNames9 s hs
  change PFn _ _ _ (.slice ((dNames s).map AV.str) .no) at g1
  have g2 := rRightSchema s hs ho
  have g3 := rOwn9 (dNames s) (by have := dNames_size s; omega)
  refine AFn.plain rfl (by simp [AV.closed, AV.closedL, Sch.closed]) (AFn.en [2] Tryz.func41 ?_)
  rw [← named_ref]
  refine .gob ?_
  refine HCode.forK (dNames s).length (fun k => [(4, .int .i64 k), (3, .slice ((dNames s).map AV.str) .no), (1, .rptr s.enc)]) (fun _ => ⟨[], []⟩) (fun k => ((dNames s).take k).all (fun n => !scalarB n) = true) ⟨rfl, rfl, rfl, trivial⟩ rfl (by simp) fun k hkk hjk => ?_
  by_cases hk : k < (dNames s).length
  · have dk : decide ((k : Int) < ((dNames s).length : Int)) = true := by simp [hk]
    have xk := map_get' (f := AV.str) hk
    have hmk := List.getElem_mem hk
    have hnxk := all_next (p := fun n => !scalarB n) hk hjk
    have hspk := all_stop (p := fun n => !scalarB n) hk
    try dsimp only at hnxk hspk
    have q := rScalar9 (dNames s)[k]
    cases c : scalarB (dNames s)[k] <;> rw [c] at q hnxk hspk
    · have hj' := hnxk rfl
      refine .go ?_
      exact ⟨hk, ⟨rfl, rfl, rfl, trivial⟩, by simp [belowS, AV.low, AV.low_of_closed, Sch.closed, AV.lowL_of_closed, str_closedL], rfl, rfl, hj'⟩
    have ha := hspk rfl
    rw [ha, Bool.false_and]
    refine .go ?_
    exact Fin.r0
  · have dk : decide ((k : Int) < ((dNames s).length : Int)) = false := by simp; omega
    obtain rfl : k = (dNames s).length := by omega
    rw [List.take_length] at hjk
    rw [hjk, Bool.true_and]
    cases c : sdlOk s <;> rw [c] at g2
    · refine .gob ?_
      exact Fin.r0
    refine .go ?_
    exact Fin.r0
theorem rRule3 (s : Sch) (hs : s.size ≤ 1048576) (ho : s.ok) : PFn Tryz.prog 43 [s.enc] (.bool (soleB s)) := by
  have hl := s.len
  refine AFn.plain rfl (by simp [AV.closed, AV.closedL, Sch.closed]) (AFn.en [2] Tryz.func43 ?_)
  rw [show (soleB s) = s.defs.all (fun d => goodNames (d.fields.map Fld.name) && (goodNames (d.params.map Par.name) && (onceB d.parts && (onceB d.faces && d.fields.all fun f => goodNames (f.params.map Par.name))))) from by
      unfold soleB
      rw [every_all]
      congr 1
      funext d
      unfold sole1
      rw [anyN]]
  refine .gob ?_
  refine HCode.forK s.defs.length (fun k => [(3, .int .i64 k), (1, .rptr s.enc)]) (fun _ => ⟨[], []⟩) (fun k => (s.defs.take k).all (fun d => goodNames (d.fields.map Fld.name) && (goodNames (d.params.map Par.name) && (onceB d.parts && (onceB d.faces && d.fields.all fun f => goodNames (f.params.map Par.name))))) = true) ⟨rfl, rfl, trivial⟩ rfl (by simp) fun k hkk hjk => ?_
  by_cases hk : k < s.defs.length
  · have dk : decide ((k : Int) < (s.defs.length : Int)) = true := by simp [hk]
    have xk := map_get' (f := Dfn.enc) hk
    have hmk := List.getElem_mem hk
    have hnxk := all_next (p := fun d => goodNames (d.fields.map Fld.name) && (goodNames (d.params.map Par.name) && (onceB d.parts && (onceB d.faces && d.fields.all fun f => goodNames (f.params.map Par.name))))) hk hjk
    have hspk := all_stop (p := fun d => goodNames (d.fields.map Fld.name) && (goodNames (d.params.map Par.name) && (onceB d.parts && (onceB d.faces && d.fields.all fun f => goodNames (f.params.map Par.name))))) hk
    try dsimp only at hnxk hspk
    have hdz := Sch.dfn hmk
    generalize hd : s.defs[k] = d at *
    have hdl := d.lens
    have hdm := d.sums
    have e1 := strs_le (g := Fld.name) (size := Fld.size) (fun f => by unfold Fld.size; omega) d.fields
    have e2 := strs_le (g := Par.name) (size := Par.size) (fun f => by unfold Par.size; omega) d.params
    have g1 := rFldNames9 d.fields (by omega)
    have g2 := rOwn9 (d.fields.map Fld.name) (by omega)
    have g3 := rParNames9 d.params (by omega)
    have g4 := rOwn9 (d.params.map Par.name) (by omega)
    have g5 := rTwice9 d.parts (by omega)
    have g6 := rTwice9 d.faces (by omega)
    cases cg2 : goodNames (d.fields.map Fld.name) <;> rw [cg2] at g2 hnxk hspk
    · have ha := hspk (by simp)
      rw [ha]
      repeat' first | refine A.allocv (d := 4) rfl rfl rfl rfl rfl ?_ | refine HCode.turn 4 rfl (Turn.freezeP rfl rfl rfl rfl) ?_ | refine .br ?_ | refine .s1 ?_ | (refine .q ?_ ?_ <;> intro hc) | refine A.vstore (agg := true) rfl rfl rfl rfl rfl rfl rfl rfl rfl rfl rfl ?_ | fail
      exact Fin.r0
    cases cg4 : goodNames (d.params.map Par.name) <;> rw [cg4] at g4 hnxk hspk
    · have ha := hspk (by simp)
      rw [ha]
      repeat' first | refine A.allocv (d := 4) rfl rfl rfl rfl rfl ?_ | refine HCode.turn 4 rfl (Turn.freezeP rfl rfl rfl rfl) ?_ | refine .br ?_ | refine .s1 ?_ | (refine .q ?_ ?_ <;> intro hc) | refine A.vstore (agg := true) rfl rfl rfl rfl rfl rfl rfl rfl rfl rfl rfl ?_ | fail
      exact Fin.r0
    cases cg5 : onceB d.parts <;> rw [cg5] at g5 hnxk hspk
    · have ha := hspk (by simp)
      rw [ha]
      repeat' first | refine A.allocv (d := 4) rfl rfl rfl rfl rfl ?_ | refine HCode.turn 4 rfl (Turn.freezeP rfl rfl rfl rfl) ?_ | refine .br ?_ | refine .s1 ?_ | (refine .q ?_ ?_ <;> intro hc) | refine A.vstore (agg := true) rfl rfl rfl rfl rfl rfl rfl rfl rfl rfl rfl ?_ | fail
      exact Fin.r0
    cases cg6 : onceB d.faces <;> rw [cg6] at g6 hnxk hspk
    · have ha := hspk (by simp)
      rw [ha]
      repeat' first | refine A.allocv (d := 4) rfl rfl rfl rfl rfl ?_ | refine HCode.turn 4 rfl (Turn.freezeP rfl rfl rfl rfl) ?_ | refine .br ?_ | refine .s1 ?_ | (refine .q ?_ ?_ <;> intro hc) | refine A.vstore (agg := true) rfl rfl rfl rfl rfl rfl rfl rfl rfl rfl rfl ?_ | fail
      exact Fin.r0
    repeat' first | refine A.allocv (d := 4) rfl rfl rfl rfl rfl ?_ | refine HCode.turn 4 rfl (Turn.freezeP rfl rfl rfl rfl) ?_ | refine .br ?_ | refine .s1 ?_ | (refine .q ?_ ?_ <;> intro hc) | refine A.vstore (agg := true) rfl rfl rfl rfl rfl rfl rfl rfl rfl rfl rfl ?_ | fail
    refine HCode.forK d.fields.length (fun j => [(5, .int .i64 j), (4, .rptr d.enc), (3, .int .i64 k), (1, .rptr s.enc)]) (fun _ => ⟨[], [.len 2]⟩) (fun j => (d.fields.take j).all (fun f => goodNames (f.params.map Par.name)) = true) ⟨rfl, rfl, rfl, rfl, trivial⟩ rfl (by simp) fun j hkj hjj => ?_
    by_cases hj : j < d.fields.length
    · have dj : decide ((j : Int) < (d.fields.length : Int)) = true := by simp [hj]
      have xj := map_get' (f := Fld.enc) hj
      have hmj := List.getElem_mem hj
      have hnxj := all_next (p := fun f => goodNames (f.params.map Par.name)) hj hjj
      have hspj := all_stop (p := fun f => goodNames (f.params.map Par.name)) hj
      try dsimp only at hnxj hspj
      have z := sumSize_mem (size := Fld.size) hmj
      generalize hf : d.fields[j] = f at *
      have z2 := f.sums
      have z3 := sumSize_length Par.size_pos f.params
      have e3 := strs_le (g := Par.name) (size := Par.size) (fun f => by unfold Par.size; omega) f.params
      have q1 := rParNames9 f.params (by omega)
      have q2 := rOwn9 (f.params.map Par.name) (by omega)
      cases c : goodNames (f.params.map Par.name) <;> rw [c] at q2 hnxj hspj
      · have hi := hspj rfl
        have ha := hspk (by rw [hi]; rfl)
        rw [ha]
        refine .go ?_
        exact Fin.r0
      have hj' := hnxj rfl
      refine .go ?_
      exact ⟨hj, ⟨rfl, rfl, rfl, rfl, trivial⟩, by simp [belowS, AV.low, AV.low_of_closed, Sch.closed, Dfn.closed, Fld.closed, Par.closed], rfl, rfl, hj'⟩
    · have dj : decide ((j : Int) < (d.fields.length : Int)) = false := by simp; omega
      obtain rfl : j = d.fields.length := by omega
      rw [List.take_length] at hjj
      have hj' := hnxk (by rw [hjj]; rfl)
      refine .go ?_
      exact ⟨hk, ⟨rfl, rfl, trivial⟩, by simp [belowS, AV.low, AV.low_of_closed, Sch.closed, Dfn.closed, Fld.closed, Par.closed], rfl, rfl, hj'⟩
  · have dk : decide ((k : Int) < (s.defs.length : Int)) = false := by simp; omega
    obtain rfl : k = s.defs.length := by omega
    rw [List.take_length] at hjk
    rw [hjk]
    refine .go ?_
    exact Fin.r0
theorem rRule4 (s : Sch) (hs : s.size ≤ 1048576) (ho : s.ok) : PFn Tryz.prog 44 [s.enc] (.bool (typedB s)) := by
  have hl := s.len
  refine AFn.plain rfl (by simp [AV.closed, AV.closedL, Sch.closed]) (AFn.en [2] Tryz.func44 ?_)
  rw [show (typedB s) = s.defs.all (fun d => entriesB s d.params && d.fields.all fun f => (leafB s f.t.name || compB s f.t.name) && entriesB s f.params) from by
      unfold typedB
      rw [every_all]
      congr 1
      funext d
      unfold typed1
      congr 1
      exact anyP _ _ (fun f => by cases leafB s f.t.name <;> cases compB s f.t.name <;> cases entriesB s f.params <;> rfl) _]
  refine .gob ?_
  refine HCode.forK s.defs.length (fun k => [(3, .int .i64 k), (1, .rptr s.enc)]) (fun _ => ⟨[], []⟩) (fun k => (s.defs.take k).all (fun d => entriesB s d.params && d.fields.all fun f => (leafB s f.t.name || compB s f.t.name) && entriesB s f.params) = true) ⟨rfl, rfl, trivial⟩ rfl (by simp) fun k hkk hjk => ?_
  by_cases hk : k < s.defs.length
  · have dk : decide ((k : Int) < (s.defs.length : Int)) = true := by simp [hk]
    have xk := map_get' (f := Dfn.enc) hk
    have hmk := List.getElem_mem hk
    have hnxk := all_next (p := fun d => entriesB s d.params && d.fields.all fun f => (leafB s f.t.name || compB s f.t.name) && entriesB s f.params) hk hjk
    have hspk := all_stop (p := fun d => entriesB s d.params && d.fields.all fun f => (leafB s f.t.name || compB s f.t.name) && entriesB s f.params) hk
    try dsimp only at hnxk hspk
    have hdz := Sch.dfn hmk
    generalize hd : s.defs[k] = d at *
    have hdl := d.lens
    have hdm := d.sums
    have g1 := rEntries9 s d.params hs (by omega)
    cases cg : entriesB s d.params <;> rw [cg] at g1 hnxk hspk
    · have ha := hspk (by simp)
      rw [ha]
      repeat' first | refine A.allocv (d := 4) rfl rfl rfl rfl rfl ?_ | refine HCode.turn 4 rfl (Turn.freezeP rfl rfl rfl rfl) ?_ | refine .br ?_ | refine .s1 ?_ | (refine .q ?_ ?_ <;> intro hc) | refine A.vstore (agg := true) rfl rfl rfl rfl rfl rfl rfl rfl rfl rfl rfl ?_ | fail
      exact Fin.r0
    repeat' first | refine A.allocv (d := 4) rfl rfl rfl rfl rfl ?_ | refine HCode.turn 4 rfl (Turn.freezeP rfl rfl rfl rfl) ?_ | refine .br ?_ | refine .s1 ?_ | (refine .q ?_ ?_ <;> intro hc) | refine A.vstore (agg := true) rfl rfl rfl rfl rfl rfl rfl rfl rfl rfl rfl ?_ | fail
    refine HCode.forK d.fields.length (fun j => [(5, .int .i64 j), (4, .rptr d.enc), (3, .int .i64 k), (1, .rptr s.enc)]) (fun _ => ⟨[], [.len 2]⟩) (fun j => (d.fields.take j).all (fun f => (leafB s f.t.name || compB s f.t.name) && entriesB s f.params) = true) ⟨rfl, rfl, rfl, rfl, trivial⟩ rfl (by simp) fun j hkj hjj => ?_
    by_cases hj : j < d.fields.length
    · have dj : decide ((j : Int) < (d.fields.length : Int)) = true := by simp [hj]
      have xj := map_get' (f := Fld.enc) hj
      have hmj := List.getElem_mem hj
      have hnxj := all_next (p := fun f => (leafB s f.t.name || compB s f.t.name) && entriesB s f.params) hj hjj
      have hspj := all_stop (p := fun f => (leafB s f.t.name || compB s f.t.name) && entriesB s f.params) hj
      try dsimp only at hnxj hspj
      have z := sumSize_mem (size := Fld.size) hmj
      generalize hf : d.fields[j] = f at *
      have z2 := f.sums
      have q1 := rLeaf9 s f.t.name hs
      have q2 := rComposite9 s f.t.name hs
      have q3 := rEntries9 s f.params hs (by omega)
      cases c1 : leafB s f.t.name <;> rw [c1] at q1 hnxj hspj
      · cases c2 : compB s f.t.name <;> rw [c2] at q2 hnxj hspj
        · have hi := hspj (by simp)
          have ha := hspk (by rw [hi]; rfl)
          rw [ha]
          refine .go ?_
          exact Fin.r0
        cases c3 : entriesB s f.params <;> rw [c3] at q3 hnxj hspj
        · have hi := hspj (by simp)
          have ha := hspk (by rw [hi]; rfl)
          rw [ha]
          refine .go ?_
          exact Fin.r0
        have hj' := hnxj (by simp)
        refine .go ?_
        exact ⟨hj, ⟨rfl, rfl, rfl, rfl, trivial⟩, by simp [belowS, AV.low, AV.low_of_closed, Sch.closed, Dfn.closed, Fld.closed, Par.closed], rfl, rfl, hj'⟩
      cases c3 : entriesB s f.params <;> rw [c3] at q3 hnxj hspj
      · have hi := hspj (by simp)
        have ha := hspk (by rw [hi]; rfl)
        rw [ha]
        refine .go ?_
        exact Fin.r0
      have hj' := hnxj (by simp)
      refine .go ?_
      exact ⟨hj, ⟨rfl, rfl, rfl, rfl, trivial⟩, by simp [belowS, AV.low, AV.low_of_closed, Sch.closed, Dfn.closed, Fld.closed, Par.closed], rfl, rfl, hj'⟩
    · have dj : decide ((j : Int) < (d.fields.length : Int)) = false := by simp; omega
      obtain rfl : j = d.fields.length := by omega
      rw [List.take_length] at hjj
      have hj' := hnxk (by rw [hjj]; rfl)
      refine .go ?_
      exact ⟨hk, ⟨rfl, rfl, trivial⟩, by simp [belowS, AV.low, AV.low_of_closed, Sch.closed, Dfn.closed, Fld.closed, Par.closed], rfl, rfl, hj'⟩
  · have dk : decide ((k : Int) < (s.defs.length : Int)) = false := by simp; omega
    obtain rfl : k = s.defs.length := by omega
    rw [List.take_length] at hjk
    rw [hjk]
    refine .go ?_
    exact Fin.r0
def faceOk (s : Sch) (d : Dfn) (n : Str) : Bool := (findR s n).2 && ((findR s n).1.kind == 2 && (!(n == d.name) && (findR s n).1.faces.all fun m => decide (m ∈ d.faces)))
theorem face_ok (s : Sch) (d : Dfn) (n : Str) : faceOk s d n = !face2 s d n := by
  unfold faceOk face2
  rw [← anyN, Bool.not_or, Bool.not_not, Bool.not_or, Bool.not_or]
  unfold bne
  rw [Bool.not_not]
theorem find_x {s : Sch} {n : Str} {x : Dfn} (h : findR s n = (x, true)) (hk : x.kind ≠ 0) : x ∈ s.defs ∧ x.name = n := by
  unfold findR at h
  cases e : findO s n with
  | none => rw [e] at h; cases h
  | some y => rw [e] at h; cases h; exact find_named e hk
theorem rRule5 (s : Sch) (hs : s.size ≤ 1048576) (ho : s.ok) : PFn Tryz.prog 45 [s.enc] (.bool (facesB s)) := by
  have hl := s.len
  refine AFn.plain rfl (by simp [AV.closed, AV.closedL, Sch.closed]) (AFn.en [2] Tryz.func45 ?_)
  rw [show (facesB s) = s.defs.all (fun d => d.faces.all (faceOk s d)) from by
      unfold facesB
      rw [every_all]
      congr 1
      funext d
      unfold faces1
      rw [show faceOk s d = fun n => !face2 s d n from funext fun n => face_ok s d n]
      exact anyP _ _ (fun n => rfl) _]
  refine .gob ?_
  refine HCode.forK s.defs.length (fun k => [(3, .int .i64 k), (1, .rptr s.enc)]) (fun _ => ⟨[], []⟩) (fun k => (s.defs.take k).all (fun d => d.faces.all (faceOk s d)) = true) ⟨rfl, rfl, trivial⟩ rfl (by simp) fun k hkk hjk => ?_
  by_cases hk : k < s.defs.length
  · have dk : decide ((k : Int) < (s.defs.length : Int)) = true := by simp [hk]
    have xk := map_get' (f := Dfn.enc) hk
    have hmk := List.getElem_mem hk
    have hnxk := all_next (p := fun d => d.faces.all (faceOk s d)) hk hjk
    have hspk := all_stop (p := fun d => d.faces.all (faceOk s d)) hk
    try dsimp only at hnxk hspk
    have hdz := Sch.dfn hmk
    generalize hd : s.defs[k] = d at *
    have hdl := d.lens
    have hdm := d.sums
    repeat' first | refine A.allocv (d := 4) rfl rfl rfl rfl rfl ?_ | refine HCode.turn 4 rfl (Turn.freezeP rfl rfl rfl rfl) ?_ | refine .br ?_ | refine .s1 ?_ | (refine .q ?_ ?_ <;> intro hc) | refine A.vstore (agg := true) rfl rfl rfl rfl rfl rfl rfl rfl rfl rfl rfl ?_ | fail
    refine HCode.forK d.faces.length (fun j => [(5, .int .i64 j), (4, .rptr d.enc), (3, .int .i64 k), (1, .rptr s.enc)]) (fun _ => ⟨[], [.len 2]⟩) (fun j => (d.faces.take j).all (faceOk s d) = true) ⟨rfl, rfl, rfl, rfl, trivial⟩ rfl (by simp) fun j hkj hjj => ?_
    by_cases hj : j < d.faces.length
    · have dj : decide ((j : Int) < (d.faces.length : Int)) = true := by simp [hj]
      have xj := map_get' (f := AV.str) hj
      have hmj := List.getElem_mem hj
      have hnxj := all_next (p := faceOk s d) hj hjj
      have hspj := all_stop (p := faceOk s d) hj
      try dsimp only at hnxj hspj
      have hF := rFind9 s d.faces[j] hs
      have hfx := @find_x s d.faces[j]
      unfold faceOk at hnxj hspj
      generalize hR : findR s d.faces[j] = r at *
      obtain ⟨x, o⟩ := r
      dsimp only at hF hnxj hspj
      cases o with
      | false =>
        have hi := hspj rfl
        have ha := hspk hi
        rw [ha]
        repeat' first | refine A.allocv (d := 6) rfl rfl rfl rfl rfl ?_ | refine HCode.turn 6 rfl (Turn.freezeP rfl rfl rfl rfl) ?_ | refine .s1 ?_ | (refine .q ?_ ?_ <;> intro hc) | refine A.vstore (agg := true) rfl rfl rfl rfl rfl rfl rfl rfl rfl rfl rfl ?_ | fail
        exact Fin.r0
      | true =>
        cases c2 : (x.kind == 2) <;> rw [c2] at hnxj hspj
        · have n2 : (x.kind != 2) = true := by unfold bne; rw [c2]; rfl
          have hi := hspj rfl
          have ha := hspk hi
          rw [ha]
          repeat' first | refine A.allocv (d := 6) rfl rfl rfl rfl rfl ?_ | refine HCode.turn 6 rfl (Turn.freezeP rfl rfl rfl rfl) ?_ | refine .s1 ?_ | (refine .q ?_ ?_ <;> intro hc) | refine A.vstore (agg := true) rfl rfl rfl rfl rfl rfl rfl rfl rfl rfl rfl ?_ | fail
          exact Fin.r0
        have n2 : (x.kind != 2) = false := by unfold bne; rw [c2]; rfl
        obtain ⟨hx1, hx2⟩ := hfx rfl (by have : x.kind = 2 := by simpa using c2
                                         omega)
        have hxl := x.lens
        have hxz := Sch.dfn hx1
        cases c3 : (d.faces[j] == d.name) <;> rw [c3] at hnxj hspj
        rotate_left
        · have n3 : (x.name == d.name) = true := by rw [hx2]; exact c3
          have hi := hspj rfl
          have ha := hspk hi
          rw [ha]
          repeat' first | refine A.allocv (d := 6) rfl rfl rfl rfl rfl ?_ | refine HCode.turn 6 rfl (Turn.freezeP rfl rfl rfl rfl) ?_ | refine .s1 ?_ | (refine .q ?_ ?_ <;> intro hc) | refine A.vstore (agg := true) rfl rfl rfl rfl rfl rfl rfl rfl rfl rfl rfl ?_ | fail
          exact Fin.r0
        have n3 : (x.name == d.name) = false := by rw [hx2]; exact c3
        repeat' first | refine A.allocv (d := 6) rfl rfl rfl rfl rfl ?_ | refine HCode.turn 6 rfl (Turn.freezeP rfl rfl rfl rfl) ?_ | refine .s1 ?_ | (refine .q ?_ ?_ <;> intro hc) | refine A.vstore (agg := true) rfl rfl rfl rfl rfl rfl rfl rfl rfl rfl rfl ?_ | fail
        refine HCode.forK x.faces.length (fun i => [(8, .int .i64 i), (6, .rptr x.enc), (5, .int .i64 j), (4, .rptr d.enc), (3, .int .i64 k), (1, .rptr s.enc)]) (fun _ => ⟨[], [.len 2, .len 2]⟩) (fun i => (x.faces.take i).all (fun m => decide (m ∈ d.faces)) = true) ⟨rfl, rfl, rfl, rfl, rfl, rfl, trivial⟩ rfl (by simp) fun i hki hji => ?_
        by_cases hi : i < x.faces.length
        · have di : decide ((i : Int) < (x.faces.length : Int)) = true := by simp [hi]
          have xi := map_get' (f := AV.str) hi
          have hmi := List.getElem_mem hi
          have hnxi := all_next (p := fun m => decide (m ∈ d.faces)) hi hji
          have hspi := all_stop (p := fun m => decide (m ∈ d.faces)) hi
          try dsimp only at hnxi hspi
          have hct := rHas d.faces x.faces[i] (by omega)
          cases c4 : decide (x.faces[i] ∈ d.faces) <;> rw [c4] at hct hnxi hspi
          · have h3 := hspi rfl
            have hi := hspj (by rw [h3]; rfl)
            have ha := hspk hi
            rw [ha]
            refine .go ?_
            exact Fin.r0
          have hj' := hnxi rfl
          refine .go ?_
          exact ⟨hi, ⟨rfl, rfl, rfl, rfl, rfl, rfl, trivial⟩, by simp [belowS, AV.low, AV.low_of_closed, Sch.closed, Dfn.closed, Fld.closed, Par.closed], rfl, rfl, hj'⟩
        · have di : decide ((i : Int) < (x.faces.length : Int)) = false := by simp; omega
          obtain rfl : i = x.faces.length := by omega
          rw [List.take_length] at hji
          have hj' := hnxj (by rw [hji]; rfl)
          refine .go ?_
          exact ⟨hj, ⟨rfl, rfl, rfl, rfl, trivial⟩, by simp [belowS, AV.low, AV.low_of_closed, Sch.closed, Dfn.closed, Fld.closed, Par.closed], rfl, rfl, hj'⟩
    · have dj : decide ((j : Int) < (d.faces.length : Int)) = false := by simp; omega
      obtain rfl : j = d.faces.length := by omega
      rw [List.take_length] at hjj
      have hj' := hnxk hjj
      refine .go ?_
      exact ⟨hk, ⟨rfl, rfl, trivial⟩, by simp [belowS, AV.low, AV.low_of_closed, Sch.closed, Dfn.closed, Fld.closed, Par.closed], rfl, rfl, hj'⟩
  · have dk : decide ((k : Int) < (s.defs.length : Int)) = false := by simp; omega
    obtain rfl : k = s.defs.length := by omega
    rw [List.take_length] at hjk
    rw [hjk]
    refine .go ?_
    exact Fin.r0
def okF (s : Sch) (d : Dfn) (g : Fld) : Bool := (fieldR s d.name g.name).2 && (subB s (fieldR s d.name g.name).1.t g.t && takesB (fieldR s d.name g.name).1 g)
theorem hasR_eq (s : Sch) (d : Dfn) (n : Str) : hasR s d n = (findR s n).1.fields.all (okF s d) := by
  unfold hasR
  congr 1
  funext g
  unfold okF fieldR
  cases fieldO s d.name g.name <;> simp
theorem findR_flds {s : Sch} {n : Str} {g : Fld} (h : g ∈ (findR s n).1.fields) : g.size ≤ s.size ∧ (findR s n).1.fields.length ≤ s.size := by
  rcases findR_in s n with h1 | h1 | h1
  · have h2 := Sch.dfn h1
    have h3 := (findR s n).1.sums
    have h4 := sumSize_mem (size := Fld.size) h
    have h5 := (findR s n).1.lens
    exact ⟨by omega, by omega⟩
  · rw [h1] at h; simp at h
  · rw [h1] at h; simp [zeroD] at h
theorem fieldR_size (s : Sch) (typ name : Str) : (fieldR s typ name).1.size ≤ s.size + 60 := by
  unfold fieldR
  cases e : fieldO s typ name with
  | none =>
    show zeroF.size ≤ _
    have : zeroF.size = 8 := rfl
    omega
  | some f =>
    unfold fieldO at e
    split at e
    · rename_i c
      cases e
      dsimp only
      rw [c.1]
      have : (Fld.mk sTypename [] ⟨sString, 0, 1⟩ []).size = 24 := rfl
      omega
    · split at e
      · have h := findR_flds (List.mem_of_find?_eq_some e)
        dsimp only; omega
      · cases e
theorem rRule6 (s : Sch) (hs : s.size ≤ 1048576) (ho : s.ok) : PFn Tryz.prog 46 [s.enc] (.bool (keptR s)) := by
  have hl := s.len
  refine AFn.plain rfl (by simp [AV.closed, AV.closedL, Sch.closed]) (AFn.en [2] Tryz.func46 ?_)
  rw [show (keptR s) = s.defs.all (fun d => d.faces.all fun n => (findR s n).1.fields.all (okF s d)) from by
      unfold keptR
      congr 1
      funext d
      congr 1
      funext n
      exact hasR_eq s d n]
  refine .gob ?_
  refine HCode.forK s.defs.length (fun k => [(3, .int .i64 k), (1, .rptr s.enc)]) (fun _ => ⟨[], []⟩) (fun k => (s.defs.take k).all (fun d => d.faces.all fun n => (findR s n).1.fields.all (okF s d)) = true) ⟨rfl, rfl, trivial⟩ rfl (by simp) fun k hkk hjk => ?_
  by_cases hk : k < s.defs.length
  · have dk : decide ((k : Int) < (s.defs.length : Int)) = true := by simp [hk]
    have xk := map_get' (f := Dfn.enc) hk
    have hmk := List.getElem_mem hk
    have hnxk := all_next (p := fun d => d.faces.all fun n => (findR s n).1.fields.all (okF s d)) hk hjk
    have hspk := all_stop (p := fun d => d.faces.all fun n => (findR s n).1.fields.all (okF s d)) hk
    try dsimp only at hnxk hspk
    have hdz := Sch.dfn hmk
    generalize hd : s.defs[k] = d at *
    have hdl := d.lens
    have hdm := d.sums
    repeat' first | refine A.allocv (d := 4) rfl rfl rfl rfl rfl ?_ | refine HCode.turn 4 rfl (Turn.freezeP rfl rfl rfl rfl) ?_ | refine .br ?_ | refine .s1 ?_ | (refine .q ?_ ?_ <;> intro hc) | refine A.vstore (agg := true) rfl rfl rfl rfl rfl rfl rfl rfl rfl rfl rfl ?_ | fail
    refine HCode.forK d.faces.length (fun j => [(5, .int .i64 j), (4, .rptr d.enc), (3, .int .i64 k), (1, .rptr s.enc)]) (fun _ => ⟨[], [.len 2]⟩) (fun j => (d.faces.take j).all (fun n => (findR s n).1.fields.all (okF s d)) = true) ⟨rfl, rfl, rfl, rfl, trivial⟩ rfl (by simp) fun j hkj hjj => ?_
    by_cases hj : j < d.faces.length
    · have dj : decide ((j : Int) < (d.faces.length : Int)) = true := by simp [hj]
      have xj := map_get' (f := AV.str) hj
      have hmj := List.getElem_mem hj
      have hnxj := all_next (p := fun n => (findR s n).1.fields.all (okF s d)) hj hjj
      have hspj := all_stop (p := fun n => (findR s n).1.fields.all (okF s d)) hj
      try dsimp only at hnxj hspj
      have hF := rFind9 s d.faces[j] hs
      have hfl : ∀ g ∈ (findR s d.faces[j]).1.fields, g.size ≤ s.size ∧ (findR s d.faces[j]).1.fields.length ≤ s.size := fun g hg => findR_flds hg
      have hfz := (findR_size (name := d.faces[j]) (show s.size ≤ 68719476736 by omega)).2.2.2.1
      generalize hR : findR s d.faces[j] = r at *
      obtain ⟨x, o⟩ := r
      dsimp only at hF hnxj hspj hfl hfz
      repeat' first | refine A.allocv (d := 6) rfl rfl rfl rfl rfl ?_ | refine HCode.turn 6 rfl (Turn.freezeP rfl rfl rfl rfl) ?_ | refine .s1 ?_ | (refine .q ?_ ?_ <;> intro hc) | refine A.vstore (agg := true) rfl rfl rfl rfl rfl rfl rfl rfl rfl rfl rfl ?_ | fail
      refine HCode.forK x.fields.length (fun i => [(8, .int .i64 i), (6, .rptr x.enc), (5, .int .i64 j), (4, .rptr d.enc), (3, .int .i64 k), (1, .rptr s.enc)]) (fun _ => ⟨[], [.len 2, .len 2]⟩) (fun i => (x.fields.take i).all (okF s d) = true) ⟨rfl, rfl, rfl, rfl, rfl, rfl, trivial⟩ rfl (by simp) fun i hki hji => ?_
      by_cases hi : i < x.fields.length
      · have di : decide ((i : Int) < (x.fields.length : Int)) = true := by simp [hi]
        have xi := map_get' (f := Fld.enc) hi
        have hmi := List.getElem_mem hi
        have hnxi := all_next (p := okF s d) hi hji
        have hspi := all_stop (p := okF s d) hi
        try dsimp only at hnxi hspi
        have hgz := (hfl _ hmi).1
        generalize hg : x.fields[i] = g at *
        have hFi := rField9 s d.name g.name hs
        have hfsz := fieldR_size s d.name g.name
        have hBe := rBears9 s (fieldR s d.name g.name).1 g hs (by omega) (by omega)
        unfold okF at hnxi hspi
        generalize hFR : fieldR s d.name g.name = fr at *
        obtain ⟨f, o2⟩ := fr
        dsimp only at hFi hBe hnxi hspi
        cases o2 with
        | false =>
          have h3 := hspi (by simp)
          have hi := hspj h3
          have ha := hspk (by rw [hi])
          rw [ha]
          repeat' first | refine A.allocv (d := 9) rfl rfl rfl rfl rfl ?_ | refine HCode.turn 9 rfl (Turn.freezeP rfl rfl rfl rfl) ?_ | refine .s1 ?_ | (refine .q ?_ ?_ <;> intro hc) | refine A.vstore (agg := true) rfl rfl rfl rfl rfl rfl rfl rfl rfl rfl rfl ?_ | fail
          exact Fin.r0
        | true =>
          cases c1 : (subB s f.t g.t && takesB f g) <;> rw [c1] at hBe hnxi hspi
          · have h3 := hspi (by simp)
            have hi := hspj h3
            have ha := hspk (by rw [hi])
            rw [ha]
            repeat' first | refine A.allocv (d := 9) rfl rfl rfl rfl rfl ?_ | refine HCode.turn 9 rfl (Turn.freezeP rfl rfl rfl rfl) ?_ | refine .s1 ?_ | (refine .q ?_ ?_ <;> intro hc) | refine A.vstore (agg := true) rfl rfl rfl rfl rfl rfl rfl rfl rfl rfl rfl ?_ | fail
            exact Fin.r0
          have hj' := hnxi rfl
          repeat' first | refine A.allocv (d := 9) rfl rfl rfl rfl rfl ?_ | refine HCode.turn 9 rfl (Turn.freezeP rfl rfl rfl rfl) ?_ | refine .s1 ?_ | (refine .q ?_ ?_ <;> intro hc) | refine A.vstore (agg := true) rfl rfl rfl rfl rfl rfl rfl rfl rfl rfl rfl ?_ | fail
          exact ⟨hi, ⟨rfl, rfl, rfl, rfl, rfl, rfl, trivial⟩, by simp [belowS, AV.low, AV.low_of_closed, Sch.closed, Dfn.closed, Fld.closed, Par.closed], rfl, rfl, hj'⟩
      · have di : decide ((i : Int) < (x.fields.length : Int)) = false := by simp; omega
        obtain rfl : i = x.fields.length := by omega
        rw [List.take_length] at hji
        have hj' := hnxj (by rw [hji])
        refine .go ?_
        exact ⟨hj, ⟨rfl, rfl, rfl, rfl, trivial⟩, by simp [belowS, AV.low, AV.low_of_closed, Sch.closed, Dfn.closed, Fld.closed, Par.closed], rfl, rfl, hj'⟩
    · have dj : decide ((j : Int) < (d.faces.length : Int)) = false := by simp; omega
      obtain rfl : j = d.faces.length := by omega
      rw [List.take_length] at hjj
      have hj' := hnxk (by rw [hjj])
      refine .go ?_
      exact ⟨hk, ⟨rfl, rfl, trivial⟩, by simp [belowS, AV.low, AV.low_of_closed, Sch.closed, Dfn.closed, Fld.closed, Par.closed], rfl, rfl, hj'⟩
  · have dk : decide ((k : Int) < (s.defs.length : Int)) = false := by simp; omega
    obtain rfl : k = s.defs.length := by omega
    rw [List.take_length] at hjk
    rw [hjk]
    refine .go ?_
    exact Fin.r0
theorem rRule7 (s : Sch) (hs : s.size ≤ 1048576) (ho : s.ok) : PFn Tryz.prog 47 [s.enc] (.bool (partsB s)) := by
  have hl := s.len
  refine AFn.plain rfl (by simp [AV.closed, AV.closedL, Sch.closed]) (AFn.en [2] Tryz.func47 ?_)
  rw [show (partsB s) = s.defs.all (fun d => d.kind != 3 || d.parts.all fun n => kindB s n [1]) from by
      unfold partsB
      rw [every_all]
      congr 1
      funext d
      unfold parts1
      rw [anyN]]
  refine .gob ?_
  refine HCode.forK s.defs.length (fun k => [(3, .int .i64 k), (1, .rptr s.enc)]) (fun _ => ⟨[], []⟩) (fun k => (s.defs.take k).all (fun d => d.kind != 3 || d.parts.all fun n => kindB s n [1]) = true) ⟨rfl, rfl, trivial⟩ rfl (by simp) fun k hkk hjk => ?_
  by_cases hk : k < s.defs.length
  · have dk : decide ((k : Int) < (s.defs.length : Int)) = true := by simp [hk]
    have xk := map_get' (f := Dfn.enc) hk
    have hmk := List.getElem_mem hk
    have hnxk := all_next (p := fun d => d.kind != 3 || d.parts.all fun n => kindB s n [1]) hk hjk
    have hspk := all_stop (p := fun d => d.kind != 3 || d.parts.all fun n => kindB s n [1]) hk
    try dsimp only at hnxk hspk
    have hdz := Sch.dfn hmk
    generalize hd : s.defs[k] = d at *
    have hdl := d.lens
    have hdm := d.sums
    cases k3 : (d.kind == 3)
    · have n3 : (d.kind != 3) = true := by unfold bne; rw [k3]; rfl
      rw [n3] at hnxk hspk
      have hj' := hnxk rfl
      refine .gob ?_
      refine HCode.forK 0 (fun j => [(4, .int .i64 j), (3, .int .i64 k), (1, .rptr s.enc)]) (fun _ => ⟨[], []⟩) (fun _ => True) ⟨rfl, rfl, rfl, trivial⟩ rfl trivial fun j hj _ => ?_
      obtain rfl : j = 0 := by omega
      cases d1 : decide (((0 : Nat) : Int) < (d.parts.length : Int))
      all_goals
        refine .go ?_
        exact ⟨hk, ⟨rfl, rfl, trivial⟩, by simp [belowS, AV.low, AV.low_of_closed, Sch.closed, Dfn.closed, Fld.closed, Par.closed], rfl, rfl, hj'⟩
    have n3 : (d.kind != 3) = false := by unfold bne; rw [k3]; rfl
    rw [n3] at hnxk hspk
    refine .gob ?_
    refine HCode.forK d.parts.length (fun j => [(4, .int .i64 j), (3, .int .i64 k), (1, .rptr s.enc)]) (fun _ => ⟨[], []⟩) (fun j => (d.parts.take j).all (fun n => kindB s n [1]) = true) ⟨rfl, rfl, rfl, trivial⟩ rfl (by simp) fun j hkj hjj => ?_
    by_cases hj : j < d.parts.length
    · have dj : decide ((j : Int) < (d.parts.length : Int)) = true := by simp [hj]
      have xj := map_get' (f := AV.str) hj
      have hmj := List.getElem_mem hj
      have hnxj := all_next (p := fun n => kindB s n [1]) hj hjj
      have hspj := all_stop (p := fun n => kindB s n [1]) hj
      try dsimp only at hnxj hspj
      have q := rObject9 s d.parts[j] hs
      cases c : kindB s d.parts[j] [1] <;> rw [c] at q hnxj hspj
      · have hi := hspj rfl
        have ha := hspk (by rw [hi]; rfl)
        rw [ha]
        refine .go ?_
        exact Fin.r0
      have hj' := hnxj rfl
      refine .go ?_
      exact ⟨hj, ⟨rfl, rfl, rfl, trivial⟩, by simp [belowS, AV.low, AV.low_of_closed, Sch.closed, Dfn.closed, Fld.closed, Par.closed], rfl, rfl, hj'⟩
    · have dj : decide ((j : Int) < (d.parts.length : Int)) = false := by simp; omega
      obtain rfl : j = d.parts.length := by omega
      rw [List.take_length] at hjj
      have hj' := hnxk (by rw [hjj]; rfl)
      refine .go ?_
      exact ⟨hk, ⟨rfl, rfl, trivial⟩, by simp [belowS, AV.low, AV.low_of_closed, Sch.closed, Dfn.closed, Fld.closed, Par.closed], rfl, rfl, hj'⟩
  · have dk : decide ((k : Int) < (s.defs.length : Int)) = false := by simp; omega
    obtain rfl : k = s.defs.length := by omega
    rw [List.take_length] at hjk
    rw [hjk]
    refine .go ?_
    exact Fin.r0
theorem rRule8 (s : Sch) (hs : s.size ≤ 1048576) (ho : s.ok) : PFn Tryz.prog 48 [s.enc] (.bool (openR s)) := by
  have hl := s.len
  refine AFn.plain rfl (by simp [AV.closed, AV.closedL, Sch.closed]) (AFn.en [2] Tryz.func48 ?_)
  rw [show (openR s) = s.defs.all (fun d => !ringR s d.name) from by
      unfold openR
      exact anyP _ _ (fun d => rfl) _]
  refine .gob ?_
  refine HCode.forK s.defs.length (fun k => [(3, .int .i64 k), (1, .rptr s.enc)]) (fun _ => ⟨[], []⟩) (fun k => (s.defs.take k).all (fun d => !ringR s d.name) = true) ⟨rfl, rfl, trivial⟩ rfl (by simp) fun k hkk hjk => ?_
  by_cases hk : k < s.defs.length
  · have dk : decide ((k : Int) < (s.defs.length : Int)) = true := by simp [hk]
    have xk := map_get' (f := Dfn.enc) hk
    have hmk := List.getElem_mem hk
    have hnxk := all_next (p := fun d => !ringR s d.name) hk hjk
    have hspk := all_stop (p := fun d => !ringR s d.name) hk
    try dsimp only at hnxk hspk
    have hdz := Sch.dfn hmk
    generalize hd : s.defs[k] = d at *
    have hdl := d.lens
    have hdm := d.sums
    have h0 := rNeeds9N s d.name hs
    have hcl0 : AV.closedL [s.enc, .str d.name] = true := by simp [AV.closed, AV.closedL, Sch.closed]
    have hN0 := allTs_len s
    have hr8 : ringR s d.name = decide (d.name ∈ closeF (needsR s) ((needsR s d.name).length + (allTs s).length) 0 (needsR s d.name)) := rfl
    have hl0 : (needsR s d.name).length ≤ 68719476736 := by
      unfold needsR
      have := (findR_size (name := d.name) (show s.size ≤ 68719476736 by omega)).1
      split
      · have := needL_len s (findR s d.name).1.params
        unfold needL at this; omega
      · simp
    generalize needsR s d.name = l0 at h0 hr8 hl0
    have hb0 : cntU (allTs s) l0 + l0.length ≤ l0.length + (allTs s).length := by have := cnt_le (allTs s) l0; omega
    generalize hNN : l0.length + (allTs s).length = N at hb0 hr8
    generalize hR : closeF (needsR s) N 0 l0 = R at hr8
    rw [hr8] at hnxk hspk
    repeat' first | refine .br ?_ | refine A.callN rfl rfl h0 hcl0 (WeakL.refl _) (by simp [AV.low]) rfl ?_ | refine .s1 ?_ | (refine .q ?_ ?_ <;> intro hc) | fail
    refine HCode.loop (fun z s1 σ => ∃ (i : Nat) (l : List Str), z = N - i ∧ i ≤ l.length ∧ cntU (allTs s) l + l.length ≤ N ∧ closeF (needsR s) (N - i) i l = R ∧ σ = ⟨[], [.len l.length]⟩ ∧
        s1 = [(5, .int .i64 i), (4, .slice (l.map AV.str) (.own 0 1)), (3, .int .i64 k), (1, .rptr s.enc)])
      (s0 := [(5, .int .i64 (0 : Nat)), (4, .slice (l0.map AV.str) (.own 0 1)), (3, .int .i64 k), (1, .rptr s.enc)]) ⟨rfl, rfl, rfl, rfl, trivial⟩ ⟨0, l0, rfl, Nat.zero_le _, hb0, hR, rfl, rfl⟩ ?_
    rintro z s1 σ ⟨i, l, rfl, hil, hcb, hcl, rfl, rfl⟩
    have hlm : (l.map AV.str).length = l.length := List.length_map ..
    by_cases h1 : i < l.length
    · have d1 : decide ((i : Int) < (l.length : Int)) = true := by simp [h1]
      have x1 := map_get' (f := AV.str) h1
      have hg : l[i]? = some l[i] := List.getElem?_eq_getElem h1
      have hn := rNeeds9 s l[i] hs
      have hUm : ∀ y ∈ needsR s l[i], y ∈ allTs s := needsR_all l[i]
      have hstep : closeF (needsR s) (N - (i + 1)) (i + 1) ((needsR s l[i]).foldl addNew l) = R := by
        rw [← hcl, show N - i = (N - (i + 1)) + 1 by omega, closeF, hg]
      have hml : (needsR s l[i]).length ≤ 68719476736 := by
        unfold needsR
        have := (findR_size (name := l[i]) (show s.size ≤ 68719476736 by omega)).1
        split
        · have := needL_len s (findR s l[i]).1.params
          unfold needL at this; omega
        · simp
      generalize needsR s l[i] = m at hn hUm hstep hml
      refine .go ?_
      refine HCode.forK m.length (fun j => [(7, .int .i64 j), (6, .slice (m.map AV.str) .no), (4, .slice (((m.take j).foldl addNew l).map AV.str) (.own 0 1)), (5, .int .i64 i), (3, .int .i64 k), (1, .rptr s.enc)])
        (fun j => ⟨[], [.len ((m.take j).foldl addNew l).length]⟩) (fun _ => True) ⟨rfl, rfl, rfl, rfl, rfl, rfl, trivial⟩ rfl trivial fun j hj _ => ?_
      by_cases h2 : j < m.length
      · have d2 : decide ((j : Int) < (m.length : Int)) = true := by simp [h2]
        have x2 := map_get' (f := AV.str) h2
        have hst := fold_take (f := addNew) (a := l) h2
        have hbb := cnt_addAll (U := allTs s) (l := l) (xs := m.take j) (fun y hy => hUm y (List.mem_of_mem_take hy))
        generalize (m.take j).foldl addNew l = xs at hst hbb
        have hct := rHas xs m[j] (by omega)
        have hwk : WeakL [.slice (xs.map AV.str) (.own 0 1), .str m[j]] [.slice (xs.map AV.str) .no, .str m[j]] := WeakL.cons (Weak.no (WeakL.refl _)) (WeakL.refl _)
        unfold addNew at hst
        by_cases c : m[j] ∈ xs
        · rw [decide_eq_true c] at hct
          replace hst := hst.trans (if_pos c)
          repeat' first | refine A.call rfl hct hwk ?_ | refine .s1 ?_ | (refine .q ?_ ?_ <;> intro hc) | fail
          exact ⟨h2, ⟨rfl, rfl, by unfold addNew; rw [hst]; rfl, rfl, rfl, rfl, trivial⟩, by simp [-List.map_take, belowS, AV.low, AV.lowL, AV.low_of_closed, Sch.closed], by simp [belowB, belowT, Ob.low, Tok.low], by unfold addNew; rw [hst]; rfl, trivial⟩
        · rw [decide_eq_false c] at hct
          replace hst := hst.trans (if_neg c)
          repeat' first | refine A.call rfl hct hwk ?_ | refine .s1 ?_ | (refine .q ?_ ?_ <;> intro hc) | refine A.append (n := xs.length) rfl rfl rfl rfl rfl rfl rfl rfl (List.length_map ..) rfl (by dsimp only [List.length_cons, List.length_nil]; omega) (by dsimp only [List.length_cons, List.length_nil]; omega) rfl ?_ | fail
          exact ⟨h2, ⟨rfl, rfl, by unfold addNew; rw [hst, List.map_append]; rfl, rfl, rfl, rfl, trivial⟩, by simp [-List.map_take, belowS, AV.low, AV.lowL, AV.low_of_closed, Sch.closed], by simp [belowB, belowT, Ob.low, Tok.low], by unfold addNew; rw [hst, List.length_append]; rfl, trivial⟩
      · have d2 : decide ((j : Int) < (m.length : Int)) = false := by simp; omega
        obtain rfl : j = m.length := by omega
        have hbb := cnt_addAll (U := allTs s) (l := l) (xs := m) hUm
        obtain ⟨r, hr⟩ := addAll_pre m l
        rw [List.take_length]
        refine .go ?_
        refine ⟨N - (i + 1), by omega, [(5, .int .i64 ((i + 1 : Nat) : Int)), (4, .slice ((m.foldl addNew l).map AV.str) (.own 0 1)), (3, .int .i64 k), (1, .rptr s.enc)], ⟨rfl, rfl, rfl, rfl, trivial⟩, by simp [belowS, AV.low, AV.lowL, AV.low_of_closed, Sch.closed], by simp [belowB, belowT, Ob.low, Tok.low],
          i + 1, m.foldl addNew l, rfl, by rw [hr, List.length_append]; omega, by omega, hstep, rfl, rfl⟩
    · have d1 : decide ((i : Int) < (l.length : Int)) = false := by simp; omega
      obtain rfl : i = l.length := by omega
      have hRl : R = l := by
        rw [← hcl]
        cases N - l.length with
        | zero => rw [closeF]
        | succ n => rw [closeF, List.getElem?_eq_none (Nat.le_refl _)]
      rw [hRl] at hnxk hspk
      have hct := rHas l d.name (by omega)
      have hwk : WeakL [.slice (l.map AV.str) (.own 0 1), .str d.name] [.slice (l.map AV.str) .no, .str d.name] := WeakL.cons (Weak.no (WeakL.refl _)) (WeakL.refl _)
      cases c : decide (d.name ∈ l) <;> rw [c] at hct hnxk hspk
      · have hj' := hnxk rfl
        repeat' first | refine A.call rfl hct hwk ?_ | refine .s1 ?_ | (refine .q ?_ ?_ <;> intro hc) | fail
        exact ⟨hk, ⟨rfl, rfl, trivial⟩, by simp [belowS, AV.low, AV.low_of_closed, Sch.closed, Dfn.closed, Fld.closed, Par.closed], rfl, rfl, hj'⟩
      · have ha := hspk rfl
        rw [ha]
        repeat' first | refine A.call rfl hct hwk ?_ | refine .s1 ?_ | (refine .q ?_ ?_ <;> intro hc) | fail
        exact Fin.r0
  · have dk : decide ((k : Int) < (s.defs.length : Int)) = false := by simp; omega
    obtain rfl : k = s.defs.length := by omega
    rw [List.take_length] at hjk
    rw [hjk]
    refine .go ?_
    exact Fin.r0
theorem rRule9 (s : Sch) (hs : s.size ≤ 1048576) (ho : s.ok) : PFn Tryz.prog 49 [s.enc] (.bool (dfltsB s)) := by
  have hl := s.len
  refine AFn.plain rfl (by simp [AV.closed, AV.closedL, Sch.closed]) (AFn.en [2] Tryz.func49 ?_)
  rw [show (dfltsB s) = s.defs.all (fun d => rightB s d.params && ((!d.params.any fun p => p.has && !leafB s p.t.name) && d.fields.all fun f => rightB s f.params)) from by
      unfold dfltsB
      rw [every_all]
      congr 1
      funext d
      unfold dflts1
      congr 1
      congr 1
      exact anyN _ _]
  refine .gob ?_
  refine HCode.forK s.defs.length (fun k => [(3, .int .i64 k), (1, .rptr s.enc)]) (fun _ => ⟨[], []⟩) (fun k => (s.defs.take k).all (fun d => rightB s d.params && ((!d.params.any fun p => p.has && !leafB s p.t.name) && d.fields.all fun f => rightB s f.params)) = true) ⟨rfl, rfl, trivial⟩ rfl (by simp) fun k hkk hjk => ?_
  by_cases hk : k < s.defs.length
  · have dk : decide ((k : Int) < (s.defs.length : Int)) = true := by simp [hk]
    have xk := map_get' (f := Dfn.enc) hk
    have hmk := List.getElem_mem hk
    have hnxk := all_next (p := fun d => rightB s d.params && ((!d.params.any fun p => p.has && !leafB s p.t.name) && d.fields.all fun f => rightB s f.params)) hk hjk
    have hspk := all_stop (p := fun d => rightB s d.params && ((!d.params.any fun p => p.has && !leafB s p.t.name) && d.fields.all fun f => rightB s f.params)) hk
    try dsimp only at hnxk hspk
    have hdz := Sch.dfn hmk
    generalize hd : s.defs[k] = d at *
    have hdl := d.lens
    have hdm := d.sums
    have g1 := rDefaults9 s d.params hs (by omega)
    have g2 := rLeafDefaults9 s d.params hs (by omega)
    cases c1 : rightB s d.params <;> rw [c1] at g1 hnxk hspk
    · have ha := hspk rfl
      rw [ha]
      refine .gob ?_
      exact Fin.r0
    cases c2 : (!d.params.any fun p => p.has && !leafB s p.t.name) <;> rw [c2] at g2 hnxk hspk
    · have ha := hspk rfl
      rw [ha]
      refine .gob ?_
      exact Fin.r0
    refine .gob ?_
    refine HCode.forK d.fields.length (fun j => [(4, .int .i64 j), (3, .int .i64 k), (1, .rptr s.enc)]) (fun _ => ⟨[], []⟩) (fun j => (d.fields.take j).all (fun f => rightB s f.params) = true) ⟨rfl, rfl, rfl, trivial⟩ rfl (by simp) fun j hkj hjj => ?_
    by_cases hj : j < d.fields.length
    · have dj : decide ((j : Int) < (d.fields.length : Int)) = true := by simp [hj]
      have xj := map_get' (f := Fld.enc) hj
      have hmj := List.getElem_mem hj
      have hnxj := all_next (p := fun f => rightB s f.params) hj hjj
      have hspj := all_stop (p := fun f => rightB s f.params) hj
      try dsimp only at hnxj hspj
      have z := sumSize_mem (size := Fld.size) hmj
      generalize hf : d.fields[j] = f at *
      have z2 := f.sums
      have q := rDefaults9 s f.params hs (by omega)
      cases c : rightB s f.params <;> rw [c] at q hnxj hspj
      · have hi := hspj rfl
        have ha := hspk (by rw [hi]; rfl)
        rw [ha]
        refine .go ?_
        exact Fin.r0
      have hj' := hnxj rfl
      refine .go ?_
      exact ⟨hj, ⟨rfl, rfl, rfl, trivial⟩, by simp [belowS, AV.low, AV.low_of_closed, Sch.closed, Dfn.closed, Fld.closed, Par.closed], rfl, rfl, hj'⟩
    · have dj : decide ((j : Int) < (d.fields.length : Int)) = false := by simp; omega
      obtain rfl : j = d.fields.length := by omega
      rw [List.take_length] at hjj
      have hj' := hnxk (by rw [hjj]; rfl)
      refine .go ?_
      exact ⟨hk, ⟨rfl, rfl, trivial⟩, by simp [belowS, AV.low, AV.low_of_closed, Sch.closed, Dfn.closed, Fld.closed, Par.closed], rfl, rfl, hj'⟩
  · have dk : decide ((k : Int) < (s.defs.length : Int)) = false := by simp; omega
    obtain rfl : k = s.defs.length := by omega
    rw [List.take_length] at hjk
    rw [hjk]
    refine .go ?_
    exact Fin.r0
theorem rRule (s : Sch) (n : Int) (hs : s.size ≤ 1048576) (ho : s.ok) : PFn Tryz.prog 21 [s.enc, .int .i64 n] (.bool (ruleR s n)) := by
  have h1 := rRule1 s hs ho
  have h2 := rObject9 s s.query hs
  have h2b := rObject9 s s.mutation hs
  have h3 := rRule3 s hs ho
  have h4 := rRule4 s hs ho
  have h5 := rRule5 s hs ho
  have h6 := rRule6 s hs ho
  have h7 := rRule7 s hs ho
  have h8 := rRule8 s hs ho
  have h9 := rRule9 s hs ho
  refine AFn.plain rfl (by simp [AV.closed, AV.closedL, Sch.closed]) (AFn.en [4] Tryz.func21 ?_)
  unfold ruleR ruleB rootsB
  by_cases k1 : n = 1
  · subst k1
    refine .gob ?_
    exact Fin.r0
  have q1 : (n == 1) = false := by simp [k1]
  by_cases k2 : n = 2
  · subst k2
    rw [if_neg (by decide), if_neg (by decide), if_neg (by decide), if_pos rfl]
    cases c1 : kindB s s.query [1] <;> rw [c1] at h2
    · refine .gob ?_
      exact Fin.r0
    cases c2 : (s.mutation == [])
    · cases c3 : (s.mutation != s.query)
      all_goals
        refine .gob ?_
        exact Fin.r0
    · refine .gob ?_
      exact Fin.r0
  have q2 : (n == 2) = false := by simp [k2]
  by_cases k3 : n = 3
  · subst k3
    refine .gob ?_
    exact Fin.r0
  have q3 : (n == 3) = false := by simp [k3]
  by_cases k4 : n = 4
  · subst k4
    refine .gob ?_
    exact Fin.r0
  have q4 : (n == 4) = false := by simp [k4]
  by_cases k5 : n = 5
  · subst k5
    refine .gob ?_
    exact Fin.r0
  have q5 : (n == 5) = false := by simp [k5]
  by_cases k6 : n = 6
  · subst k6
    refine .gob ?_
    exact Fin.r0
  have q6 : (n == 6) = false := by simp [k6]
  by_cases k7 : n = 7
  · subst k7
    refine .gob ?_
    exact Fin.r0
  have q7 : (n == 7) = false := by simp [k7]
  by_cases k8 : n = 8
  · subst k8
    refine .gob ?_
    exact Fin.r0
  have q8 : (n == 8) = false := by simp [k8]
  by_cases k9 : n = 9
  · subst k9
    refine .gob ?_
    exact Fin.r0
  have q9 : (n == 9) = false := by simp [k9]
  rw [if_neg k6, if_neg k8, if_neg k1, if_neg k2, if_neg k3, if_neg k4, if_neg k5, if_neg k6, if_neg k7, if_neg k8, if_neg k9]
  refine .gob ?_
  exact Fin.r0
theorem rCheck9 (s : Sch) (hs : s.size ≤ 1048576) (ho : s.ok) : PFn Tryz.prog 14 [s.enc] (.int .i64 (checkI s)) := by
  refine AFn.plain rfl (by simp [AV.closed, AV.closedL, Sch.closed]) (AFn.en [2] Tryz.func14 ?_)
  rw [← checkR_eq]
  refine .gob ?_
  refine HCode.forK 9 (fun k => [(3, .int .i64 ((k : Int) + 1)), (1, .rptr s.enc)]) (fun _ => ⟨[], []⟩) (fun k => checkRF s 9 1 = checkRF s (9 - k) ((k : Int) + 1)) ⟨rfl, rfl, trivial⟩ rfl rfl fun k hk hp => ?_
  by_cases h1 : k < 9
  · have d1 : decide ((k : Int) + 1 ≤ 9) = true := decide_eq_true (by omega)
    have hr := rRule s ((k : Int) + 1) hs ho
    have e : checkRF s (9 - k) ((k : Int) + 1) = if ruleR s ((k : Int) + 1) = true then checkRF s (9 - (k + 1)) ((k : Int) + 1 + 1) else (k : Int) + 1 := by
      rw [show 9 - k = (9 - (k + 1)) + 1 by omega, checkRF]
    cases c : ruleR s ((k : Int) + 1) <;> rw [c] at hr e
    · rw [if_neg (by decide)] at e
      rw [hp, e]
      refine .gob ?_
      exact Fin.r0
    · rw [if_pos rfl] at e
      refine .gob ?_
      exact ⟨h1, ⟨rfl, rfl, trivial⟩, by simp [belowS, AV.low, AV.low_of_closed, Sch.closed], rfl, rfl, by rw [hp, e]; rfl⟩
  · have d1 : decide ((k : Int) + 1 ≤ 9) = false := decide_eq_false (by omega)
    obtain rfl : k = 9 := by omega
    refine .gob ?_
    refine Fin.ret1 rfl (Weak.eq ?_)
    rw [hp]; rfl
end Go.Proofs.YtmfmdehfbpkgdaaGreatDoor
