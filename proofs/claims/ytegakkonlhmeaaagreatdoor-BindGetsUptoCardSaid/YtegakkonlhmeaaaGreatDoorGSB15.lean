/-
  Contracts and plain facts for a law, joined.
-/
import Derived.Test.YtegakkonlhmeaaaGreatDoorGSB14
set_option maxRecDepth 100000
set_option maxHeartbeats 16000000
set_option linter.unusedVariables false
set_option linter.unusedSimpArgs false
set_option linter.unusedSectionVars false
namespace Go.Proofs.YtegakkonlhmeaaaGreatDoor
open Go Go.Av
attribute [local irreducible] HCode AOps PFn AFn Av.Step TStep
theorem split_cases {s : Sch} {typ : Str} {f : Fld} (h : (ofB s typ f).2 = true) : ((ofB s typ f).1.how = 0 ∧ changesB s typ = false ∧ leafB s f.t.name = true) ∨
    (((ofB s typ f).1.how = 1 ∨ (ofB s typ f).1.how = 2) ∧ changesB s typ = false ∧ compB s f.t.name = true ∧ (ofB s typ f).1.table ≠ []) ∨ ((ofB s typ f).1.how = 3 ∧ changesB s typ = true) := by
  obtain ⟨h1, h2, _⟩ := of_said h
  obtain ⟨a1, _, _⟩ := said_how h1
  obtain ⟨b1, b2, b3⟩ := split_of h
  rw [h2] at *
  rcases a1 with e | e | e | e
  · exact .inl ⟨e, by rw [← b1]; simp [e], b2 e⟩
  · exact .inr (.inl ⟨.inl e, by rw [← b1]; simp [e], b3 (.inl e)⟩)
  · exact .inr (.inl ⟨.inr e, by rw [← b1]; simp [e], b3 (.inr e)⟩)
  · exact .inr (.inr ⟨e, by rw [← b1]; simp [e]⟩)
theorem bindSplits (s : Sch) (hs : s.size ≤ 1048576) (ho : s.ok) : PFn Tryz.prog 8 [s.enc] (.bool true) := by
  have hL := light8 s (by omega)
  have hw := awake12
  have hc := bCheck s (by omega) ho
  have hlen := sumSize_length (size := Dfn.size) (fun d => by unfold Dfn.size; omega) s.defs
  have hss : s.size = sumSize Dfn.size s.defs + s.query.length + s.mutation.length + 4 := rfl
  refine AFn.plain rfl (by simp [AV.closedL, AV.closed, Sch.closed]) (AFn.enter [2] Tryz.func8 rfl rfl rfl rfl rfl (by decide) ?_)
  cases c1 : lightS s <;> rw [c1] at hL
  · repeat' first | refine .br ?_ | refine .seq ?_ | refine .rg ?_ | refine .rd ?_ | refine .block ?_ | refine .scope ?_ | refine .skip ?_ | refine .label ?_ | refine .exit ?_ | refine .ret ?_ | refine .ct ?_ | refine .cf ?_ | refine .cy ?_ | refine .cn ?_ | (refine .cond rfl ?_ ?_ <;> intro hc) | refine A.nil_seq ?_ | refine .nl ?_ | refine .dd ?_ | refine .ys ?_ | refine .no ?_ | (refine A.guard rfl ?_ ?_ <;> intro hc) | refine .lb ?_ | refine .ln ?_ | refine .ls ?_ | refine .pv ?_ | refine .ix ?_ | refine .pt ?_ | refine .pf ?_ | refine .bx ?_ | refine .al ?_ | refine .st ?_ | refine .ad ?_ | refine .sb ?_ | refine .mf ?_ | refine .cl ?_ | refine .cw ?_ | refine .ck ?_ | fail
    exact Fin.ret1 rfl (Weak.refl _)
  cases c5 : servedB s <;> rw [c5] at hc
  · repeat' first | refine .br ?_ | refine .seq ?_ | refine .rg ?_ | refine .rd ?_ | refine .block ?_ | refine .scope ?_ | refine .skip ?_ | refine .label ?_ | refine .exit ?_ | refine .ret ?_ | refine .ct ?_ | refine .cf ?_ | refine .cy ?_ | refine .cn ?_ | (refine .cond rfl ?_ ?_ <;> intro hc) | refine A.nil_seq ?_ | refine .nl ?_ | refine .dd ?_ | refine .ys ?_ | refine .no ?_ | (refine A.guard rfl ?_ ?_ <;> intro hc) | refine .lb ?_ | refine .ln ?_ | refine .ls ?_ | refine .pv ?_ | refine .ix ?_ | refine .pt ?_ | refine .pf ?_ | refine .bx ?_ | refine .al ?_ | refine .st ?_ | refine .ad ?_ | refine .sb ?_ | refine .mf ?_ | refine .cl ?_ | refine .cw ?_ | refine .ck ?_ | fail
    exact Fin.ret1 rfl (Weak.refl _)
  obtain ⟨_, hsv⟩ := served_iff.1 c5
  repeat' first | refine .br ?_ | refine .seq ?_ | refine .rg ?_ | refine .rd ?_ | refine .block ?_ | refine .scope ?_ | refine .skip ?_ | refine .label ?_ | refine .exit ?_ | refine .ret ?_ | refine .ct ?_ | refine .cf ?_ | refine .cy ?_ | refine .cn ?_ | (refine .cond rfl ?_ ?_ <;> intro hc) | refine A.nil_seq ?_ | refine .nl ?_ | refine .dd ?_ | refine .ys ?_ | refine .no ?_ | (refine A.guard rfl ?_ ?_ <;> intro hc) | refine .lb ?_ | refine .ln ?_ | refine .ls ?_ | refine .pv ?_ | refine .ix ?_ | refine .pt ?_ | refine .pf ?_ | refine .bx ?_ | refine .al ?_ | refine .st ?_ | refine .ad ?_ | refine .sb ?_ | refine .mf ?_ | refine .cl ?_ | refine .cw ?_ | refine .ck ?_ | fail
  refine HCode.forK s.defs.length (fun k => [(3, .int .i64 k), (1, .rptr s.enc)]) (fun _ => ⟨[], []⟩) (fun _ => True) ⟨rfl, rfl, trivial⟩ rfl trivial fun k hk _ => ?_
  by_cases h1 : k < s.defs.length
  · have d1 : decide ((k : Int) < (s.defs.length : Int)) = true := by simp [h1]
    have x1 := map_get' (f := Dfn.enc) h1
    have hdz := Sch.dfn (List.getElem_mem h1)
    have hsd := hsv _ (List.getElem_mem h1)
    generalize hd : s.defs[k] = d at *
    have hdl := d.lens
    have hsm := d.sums
    repeat' first | refine A.allocv (d := 4) rfl rfl rfl rfl rfl ?_ | refine HCode.turn 4 rfl (Turn.freezeP rfl rfl rfl rfl) ?_ | refine .seq ?_ | refine .rg ?_ | refine .rd ?_ | refine .block ?_ | refine .scope ?_ | refine .skip ?_ | refine .label ?_ | refine .exit ?_ | refine .ret ?_ | refine .ct ?_ | refine .cf ?_ | refine .cy ?_ | refine .cn ?_ | (refine .cond rfl ?_ ?_ <;> intro hc) | refine A.nil_seq ?_ | refine .nl ?_ | refine .dd ?_ | refine .ys ?_ | refine .no ?_ | (refine A.guard rfl ?_ ?_ <;> intro hc) | refine .lb ?_ | refine .ln ?_ | refine .ls ?_ | refine .pv ?_ | refine .ix ?_ | refine .pt ?_ | refine .pf ?_ | refine .bx ?_ | refine .al ?_ | refine .st ?_ | refine .ad ?_ | refine .sb ?_ | refine .mf ?_ | refine .cl ?_ | refine .cw ?_ | refine .ck ?_ | refine A.vstore (agg := true) rfl rfl rfl rfl rfl rfl rfl rfl rfl rfl rfl ?_ | fail
    refine HCode.forK d.fields.length (fun j => [(5, .int .i64 j), (4, .rptr d.enc), (3, .int .i64 k), (1, .rptr s.enc)]) (fun _ => ⟨[], [.len 2]⟩) (fun _ => True) ⟨rfl, rfl, rfl, rfl, trivial⟩ rfl trivial fun j hj _ => ?_
    by_cases h2 : j < d.fields.length
    · have d2 : decide ((j : Int) < (d.fields.length : Int)) = true := by simp [h2]
      have x2 := map_get' (f := Fld.enc) h2
      cases kk : (d.kind == 1)
      · repeat' first | refine .seq ?_ | refine .rg ?_ | refine .rd ?_ | refine .block ?_ | refine .scope ?_ | refine .skip ?_ | refine .label ?_ | refine .exit ?_ | refine .ret ?_ | refine .ct ?_ | refine .cf ?_ | refine .cy ?_ | refine .cn ?_ | (refine .cond rfl ?_ ?_ <;> intro hc) | refine A.nil_seq ?_ | refine .nl ?_ | refine .dd ?_ | refine .ys ?_ | refine .no ?_ | (refine A.guard rfl ?_ ?_ <;> intro hc) | refine .lb ?_ | refine .ln ?_ | refine .ls ?_ | refine .pv ?_ | refine .ix ?_ | refine .pt ?_ | refine .pf ?_ | refine .bx ?_ | refine .al ?_ | refine .st ?_ | refine .ad ?_ | refine .sb ?_ | refine .mf ?_ | refine .cl ?_ | refine .cw ?_ | refine .ck ?_ | fail
        exact ⟨h1, ⟨rfl, rfl, trivial⟩, by simp [belowS, AV.low, AV.low_of_closed, Sch.closed], rfl, rfl, trivial⟩
      have hof := hsd (by simpa using kk) _ (List.getElem_mem h2)
      have hfz := sumSize_mem (size := Fld.size) (List.getElem_mem h2)
      generalize hf : d.fields[j] = f at *
      have hO := bOf s d.name f (by omega) (by omega)
      have hl := dLeaf s f.t.name (by omega)
      have hcm := dComposite s f.t.name (by omega)
      have hcs := split_cases hof
      rw [hof] at hO
      generalize (ofB s d.name f).1 = b at *
      unfold changesB at hcs
      rcases hcs with ⟨g1, g2, g3⟩ | ⟨g1, g2, g3, g4⟩ | ⟨g1, g2⟩
      · rw [g3] at hl
        have f0 : (b.how == 0) = true := by simp [g1]
        have f1 : (b.how == 1) = false := by simp [g1]
        have f2 : (b.how == 2) = false := by simp [g1]
        have f3 : (b.how == 3) = false := by simp [g1]
        have n0 : ((b.how == 3) != false) = false := by rw [f3]; rfl
        cases m1 : (s.mutation != [])
        · repeat' first | refine A.allocv (d := 6) rfl rfl rfl rfl rfl ?_ | refine HCode.turn 6 rfl (Turn.freezeP rfl rfl rfl rfl) ?_ | refine .seq ?_ | refine .rg ?_ | refine .rd ?_ | refine .block ?_ | refine .scope ?_ | refine .skip ?_ | refine .label ?_ | refine .exit ?_ | refine .ret ?_ | refine .ct ?_ | refine .cf ?_ | refine .cy ?_ | refine .cn ?_ | (refine .cond rfl ?_ ?_ <;> intro hc) | refine A.nil_seq ?_ | refine .nl ?_ | refine .dd ?_ | refine .ys ?_ | refine .no ?_ | (refine A.guard rfl ?_ ?_ <;> intro hc) | refine .lb ?_ | refine .ln ?_ | refine .ls ?_ | refine .pv ?_ | refine .ix ?_ | refine .pt ?_ | refine .pf ?_ | refine .bx ?_ | refine .al ?_ | refine .st ?_ | refine .ad ?_ | refine .sb ?_ | refine .mf ?_ | refine .cl ?_ | refine .cw ?_ | refine .ck ?_ | refine A.vstore (agg := true) rfl rfl rfl rfl rfl rfl rfl rfl rfl rfl rfl ?_ | refine A.neb rfl rfl rfl rfl ?_ | fail
          exact ⟨h2, ⟨rfl, rfl, rfl, rfl, trivial⟩, by simp [belowS, AV.low, AV.low_of_closed, Sch.closed, Dfn.closed], rfl, rfl, trivial⟩
        · rw [m1, Bool.true_and] at g2
          have n1 : ((b.how == 3) != (d.name == s.mutation)) = false := by rw [f3, g2]; rfl
          repeat' first | refine A.allocv (d := 6) rfl rfl rfl rfl rfl ?_ | refine HCode.turn 6 rfl (Turn.freezeP rfl rfl rfl rfl) ?_ | refine .seq ?_ | refine .rg ?_ | refine .rd ?_ | refine .block ?_ | refine .scope ?_ | refine .skip ?_ | refine .label ?_ | refine .exit ?_ | refine .ret ?_ | refine .ct ?_ | refine .cf ?_ | refine .cy ?_ | refine .cn ?_ | (refine .cond rfl ?_ ?_ <;> intro hc) | refine A.nil_seq ?_ | refine .nl ?_ | refine .dd ?_ | refine .ys ?_ | refine .no ?_ | (refine A.guard rfl ?_ ?_ <;> intro hc) | refine .lb ?_ | refine .ln ?_ | refine .ls ?_ | refine .pv ?_ | refine .ix ?_ | refine .pt ?_ | refine .pf ?_ | refine .bx ?_ | refine .al ?_ | refine .st ?_ | refine .ad ?_ | refine .sb ?_ | refine .mf ?_ | refine .cl ?_ | refine .cw ?_ | refine .ck ?_ | refine A.vstore (agg := true) rfl rfl rfl rfl rfl rfl rfl rfl rfl rfl rfl ?_ | refine A.neb rfl rfl rfl rfl ?_ | fail
          exact ⟨h2, ⟨rfl, rfl, rfl, rfl, trivial⟩, by simp [belowS, AV.low, AV.low_of_closed, Sch.closed, Dfn.closed], rfl, rfl, trivial⟩
      · rw [g3] at hcm
        have f0 : (b.how == 0) = false := by rw [beq_eq_false_iff_ne]; omega
        have f3 : (b.how == 3) = false := by rw [beq_eq_false_iff_ne]; omega
        have ft : (b.table == []) = false := by simp [g4]
        have n0 : ((b.how == 3) != false) = false := by rw [f3]; rfl
        cases f1 : (b.how == 1)
        · have f2 : (b.how == 2) = true := by
            rw [beq_iff_eq]
            have : b.how ≠ 1 := by rw [beq_eq_false_iff_ne] at f1; exact f1
            omega
          cases m1 : (s.mutation != [])
          · repeat' first | refine A.allocv (d := 6) rfl rfl rfl rfl rfl ?_ | refine HCode.turn 6 rfl (Turn.freezeP rfl rfl rfl rfl) ?_ | refine .seq ?_ | refine .rg ?_ | refine .rd ?_ | refine .block ?_ | refine .scope ?_ | refine .skip ?_ | refine .label ?_ | refine .exit ?_ | refine .ret ?_ | refine .ct ?_ | refine .cf ?_ | refine .cy ?_ | refine .cn ?_ | (refine .cond rfl ?_ ?_ <;> intro hc) | refine A.nil_seq ?_ | refine .nl ?_ | refine .dd ?_ | refine .ys ?_ | refine .no ?_ | (refine A.guard rfl ?_ ?_ <;> intro hc) | refine .lb ?_ | refine .ln ?_ | refine .ls ?_ | refine .pv ?_ | refine .ix ?_ | refine .pt ?_ | refine .pf ?_ | refine .bx ?_ | refine .al ?_ | refine .st ?_ | refine .ad ?_ | refine .sb ?_ | refine .mf ?_ | refine .cl ?_ | refine .cw ?_ | refine .ck ?_ | refine A.vstore (agg := true) rfl rfl rfl rfl rfl rfl rfl rfl rfl rfl rfl ?_ | refine A.neb rfl rfl rfl rfl ?_ | fail
            exact ⟨h2, ⟨rfl, rfl, rfl, rfl, trivial⟩, by simp [belowS, AV.low, AV.low_of_closed, Sch.closed, Dfn.closed], rfl, rfl, trivial⟩
          · rw [m1, Bool.true_and] at g2
            have n1 : ((b.how == 3) != (d.name == s.mutation)) = false := by rw [f3, g2]; rfl
            repeat' first | refine A.allocv (d := 6) rfl rfl rfl rfl rfl ?_ | refine HCode.turn 6 rfl (Turn.freezeP rfl rfl rfl rfl) ?_ | refine .seq ?_ | refine .rg ?_ | refine .rd ?_ | refine .block ?_ | refine .scope ?_ | refine .skip ?_ | refine .label ?_ | refine .exit ?_ | refine .ret ?_ | refine .ct ?_ | refine .cf ?_ | refine .cy ?_ | refine .cn ?_ | (refine .cond rfl ?_ ?_ <;> intro hc) | refine A.nil_seq ?_ | refine .nl ?_ | refine .dd ?_ | refine .ys ?_ | refine .no ?_ | (refine A.guard rfl ?_ ?_ <;> intro hc) | refine .lb ?_ | refine .ln ?_ | refine .ls ?_ | refine .pv ?_ | refine .ix ?_ | refine .pt ?_ | refine .pf ?_ | refine .bx ?_ | refine .al ?_ | refine .st ?_ | refine .ad ?_ | refine .sb ?_ | refine .mf ?_ | refine .cl ?_ | refine .cw ?_ | refine .ck ?_ | refine A.vstore (agg := true) rfl rfl rfl rfl rfl rfl rfl rfl rfl rfl rfl ?_ | refine A.neb rfl rfl rfl rfl ?_ | fail
            exact ⟨h2, ⟨rfl, rfl, rfl, rfl, trivial⟩, by simp [belowS, AV.low, AV.low_of_closed, Sch.closed, Dfn.closed], rfl, rfl, trivial⟩
        · cases m1 : (s.mutation != [])
          · repeat' first | refine A.allocv (d := 6) rfl rfl rfl rfl rfl ?_ | refine HCode.turn 6 rfl (Turn.freezeP rfl rfl rfl rfl) ?_ | refine .seq ?_ | refine .rg ?_ | refine .rd ?_ | refine .block ?_ | refine .scope ?_ | refine .skip ?_ | refine .label ?_ | refine .exit ?_ | refine .ret ?_ | refine .ct ?_ | refine .cf ?_ | refine .cy ?_ | refine .cn ?_ | (refine .cond rfl ?_ ?_ <;> intro hc) | refine A.nil_seq ?_ | refine .nl ?_ | refine .dd ?_ | refine .ys ?_ | refine .no ?_ | (refine A.guard rfl ?_ ?_ <;> intro hc) | refine .lb ?_ | refine .ln ?_ | refine .ls ?_ | refine .pv ?_ | refine .ix ?_ | refine .pt ?_ | refine .pf ?_ | refine .bx ?_ | refine .al ?_ | refine .st ?_ | refine .ad ?_ | refine .sb ?_ | refine .mf ?_ | refine .cl ?_ | refine .cw ?_ | refine .ck ?_ | refine A.vstore (agg := true) rfl rfl rfl rfl rfl rfl rfl rfl rfl rfl rfl ?_ | refine A.neb rfl rfl rfl rfl ?_ | fail
            exact ⟨h2, ⟨rfl, rfl, rfl, rfl, trivial⟩, by simp [belowS, AV.low, AV.low_of_closed, Sch.closed, Dfn.closed], rfl, rfl, trivial⟩
          · rw [m1, Bool.true_and] at g2
            have n1 : ((b.how == 3) != (d.name == s.mutation)) = false := by rw [f3, g2]; rfl
            repeat' first | refine A.allocv (d := 6) rfl rfl rfl rfl rfl ?_ | refine HCode.turn 6 rfl (Turn.freezeP rfl rfl rfl rfl) ?_ | refine .seq ?_ | refine .rg ?_ | refine .rd ?_ | refine .block ?_ | refine .scope ?_ | refine .skip ?_ | refine .label ?_ | refine .exit ?_ | refine .ret ?_ | refine .ct ?_ | refine .cf ?_ | refine .cy ?_ | refine .cn ?_ | (refine .cond rfl ?_ ?_ <;> intro hc) | refine A.nil_seq ?_ | refine .nl ?_ | refine .dd ?_ | refine .ys ?_ | refine .no ?_ | (refine A.guard rfl ?_ ?_ <;> intro hc) | refine .lb ?_ | refine .ln ?_ | refine .ls ?_ | refine .pv ?_ | refine .ix ?_ | refine .pt ?_ | refine .pf ?_ | refine .bx ?_ | refine .al ?_ | refine .st ?_ | refine .ad ?_ | refine .sb ?_ | refine .mf ?_ | refine .cl ?_ | refine .cw ?_ | refine .ck ?_ | refine A.vstore (agg := true) rfl rfl rfl rfl rfl rfl rfl rfl rfl rfl rfl ?_ | refine A.neb rfl rfl rfl rfl ?_ | fail
            exact ⟨h2, ⟨rfl, rfl, rfl, rfl, trivial⟩, by simp [belowS, AV.low, AV.low_of_closed, Sch.closed, Dfn.closed], rfl, rfl, trivial⟩
      · have f0 : (b.how == 0) = false := by simp [g1]
        have f1 : (b.how == 1) = false := by simp [g1]
        have f2 : (b.how == 2) = false := by simp [g1]
        have f3 : (b.how == 3) = true := by simp [g1]
        rw [Bool.and_eq_true] at g2
        obtain ⟨m1, m2⟩ := g2
        have n1 : ((b.how == 3) != (d.name == s.mutation)) = false := by rw [f3, m2]; rfl
        repeat' first | refine A.allocv (d := 6) rfl rfl rfl rfl rfl ?_ | refine HCode.turn 6 rfl (Turn.freezeP rfl rfl rfl rfl) ?_ | refine .seq ?_ | refine .rg ?_ | refine .rd ?_ | refine .block ?_ | refine .scope ?_ | refine .skip ?_ | refine .label ?_ | refine .exit ?_ | refine .ret ?_ | refine .ct ?_ | refine .cf ?_ | refine .cy ?_ | refine .cn ?_ | (refine .cond rfl ?_ ?_ <;> intro hc) | refine A.nil_seq ?_ | refine .nl ?_ | refine .dd ?_ | refine .ys ?_ | refine .no ?_ | (refine A.guard rfl ?_ ?_ <;> intro hc) | refine .lb ?_ | refine .ln ?_ | refine .ls ?_ | refine .pv ?_ | refine .ix ?_ | refine .pt ?_ | refine .pf ?_ | refine .bx ?_ | refine .al ?_ | refine .st ?_ | refine .ad ?_ | refine .sb ?_ | refine .mf ?_ | refine .cl ?_ | refine .cw ?_ | refine .ck ?_ | refine A.vstore (agg := true) rfl rfl rfl rfl rfl rfl rfl rfl rfl rfl rfl ?_ | refine A.neb rfl rfl rfl rfl ?_ | fail
        exact ⟨h2, ⟨rfl, rfl, rfl, rfl, trivial⟩, by simp [belowS, AV.low, AV.low_of_closed, Sch.closed, Dfn.closed], rfl, rfl, trivial⟩
    · have d2 : decide ((j : Int) < (d.fields.length : Int)) = false := by simp; omega
      repeat' first | refine .seq ?_ | refine .rg ?_ | refine .rd ?_ | refine .block ?_ | refine .scope ?_ | refine .skip ?_ | refine .label ?_ | refine .exit ?_ | refine .ret ?_ | refine .ct ?_ | refine .cf ?_ | refine .cy ?_ | refine .cn ?_ | (refine .cond rfl ?_ ?_ <;> intro hc) | refine A.nil_seq ?_ | refine .nl ?_ | refine .dd ?_ | refine .ys ?_ | refine .no ?_ | (refine A.guard rfl ?_ ?_ <;> intro hc) | refine .lb ?_ | refine .ln ?_ | refine .ls ?_ | refine .pv ?_ | refine .ix ?_ | refine .pt ?_ | refine .pf ?_ | refine .bx ?_ | refine .al ?_ | refine .st ?_ | refine .ad ?_ | refine .sb ?_ | refine .mf ?_ | refine .cl ?_ | refine .cw ?_ | refine .ck ?_ | fail
      exact ⟨h1, ⟨rfl, rfl, trivial⟩, by simp [belowS, AV.low, AV.low_of_closed, Sch.closed], rfl, rfl, trivial⟩
  · have d1 : decide ((k : Int) < (s.defs.length : Int)) = false := by simp; omega
    repeat' first | refine .seq ?_ | refine .rg ?_ | refine .rd ?_ | refine .block ?_ | refine .scope ?_ | refine .skip ?_ | refine .label ?_ | refine .exit ?_ | refine .ret ?_ | refine .ct ?_ | refine .cf ?_ | refine .cy ?_ | refine .cn ?_ | (refine .cond rfl ?_ ?_ <;> intro hc) | refine A.nil_seq ?_ | refine .nl ?_ | refine .dd ?_ | refine .ys ?_ | refine .no ?_ | (refine A.guard rfl ?_ ?_ <;> intro hc) | refine .lb ?_ | refine .ln ?_ | refine .ls ?_ | refine .pv ?_ | refine .ix ?_ | refine .pt ?_ | refine .pf ?_ | refine .bx ?_ | refine .al ?_ | refine .st ?_ | refine .ad ?_ | refine .sb ?_ | refine .mf ?_ | refine .cl ?_ | refine .cw ?_ | refine .ck ?_ | fail
    exact Fin.ret1 rfl (Weak.refl _)
def gP (f : Fld) (b : Bnd) (p : Par) : Bool := p.name == b.arg && (p.t.lists == f.t.lists && (p.t.name == sID || p.t.name == sString))
theorem anyG_take {α : Type} {l : List α} {k : Nat} (f : α → Bool) (h : k < l.length) : (l.take (k + 1)).any f = ((l.take k).any f || f l[k]) := by
  rw [List.take_succ_eq_append_getElem h, List.any_append]; simp
theorem bindGets (s : Sch) (hs : s.size ≤ 1048576) (ho : s.ok) : PFn Tryz.prog 9 [s.enc] (.bool true) := by
  have hL := light8 s (by omega)
  have hw := awake12
  have hc := bCheck s (by omega) ho
  have hlen := sumSize_length (size := Dfn.size) (fun d => by unfold Dfn.size; omega) s.defs
  have hss : s.size = sumSize Dfn.size s.defs + s.query.length + s.mutation.length + 4 := rfl
  refine AFn.plain rfl (by simp [AV.closedL, AV.closed, Sch.closed]) (AFn.enter [2] Tryz.func9 rfl rfl rfl rfl rfl (by decide) ?_)
  cases c1 : lightS s <;> rw [c1] at hL
  · repeat' first | refine .br ?_ | refine .seq ?_ | refine .rg ?_ | refine .rd ?_ | refine .block ?_ | refine .scope ?_ | refine .skip ?_ | refine .label ?_ | refine .exit ?_ | refine .ret ?_ | refine .ct ?_ | refine .cf ?_ | refine .cy ?_ | refine .cn ?_ | (refine .cond rfl ?_ ?_ <;> intro hc) | refine A.nil_seq ?_ | refine .nl ?_ | refine .dd ?_ | refine .ys ?_ | refine .no ?_ | (refine A.guard rfl ?_ ?_ <;> intro hc) | refine .lb ?_ | refine .ln ?_ | refine .ls ?_ | refine .pv ?_ | refine .ix ?_ | refine .pt ?_ | refine .pf ?_ | refine .bx ?_ | refine .al ?_ | refine .st ?_ | refine .ad ?_ | refine .sb ?_ | refine .mf ?_ | refine .cl ?_ | refine .cw ?_ | refine .ck ?_ | fail
    exact Fin.ret1 rfl (Weak.refl _)
  cases c5 : servedB s <;> rw [c5] at hc
  · repeat' first | refine .br ?_ | refine .seq ?_ | refine .rg ?_ | refine .rd ?_ | refine .block ?_ | refine .scope ?_ | refine .skip ?_ | refine .label ?_ | refine .exit ?_ | refine .ret ?_ | refine .ct ?_ | refine .cf ?_ | refine .cy ?_ | refine .cn ?_ | (refine .cond rfl ?_ ?_ <;> intro hc) | refine A.nil_seq ?_ | refine .nl ?_ | refine .dd ?_ | refine .ys ?_ | refine .no ?_ | (refine A.guard rfl ?_ ?_ <;> intro hc) | refine .lb ?_ | refine .ln ?_ | refine .ls ?_ | refine .pv ?_ | refine .ix ?_ | refine .pt ?_ | refine .pf ?_ | refine .bx ?_ | refine .al ?_ | refine .st ?_ | refine .ad ?_ | refine .sb ?_ | refine .mf ?_ | refine .cl ?_ | refine .cw ?_ | refine .ck ?_ | fail
    exact Fin.ret1 rfl (Weak.refl _)
  obtain ⟨_, hsv⟩ := served_iff.1 c5
  repeat' first | refine .br ?_ | refine .seq ?_ | refine .rg ?_ | refine .rd ?_ | refine .block ?_ | refine .scope ?_ | refine .skip ?_ | refine .label ?_ | refine .exit ?_ | refine .ret ?_ | refine .ct ?_ | refine .cf ?_ | refine .cy ?_ | refine .cn ?_ | (refine .cond rfl ?_ ?_ <;> intro hc) | refine A.nil_seq ?_ | refine .nl ?_ | refine .dd ?_ | refine .ys ?_ | refine .no ?_ | (refine A.guard rfl ?_ ?_ <;> intro hc) | refine .lb ?_ | refine .ln ?_ | refine .ls ?_ | refine .pv ?_ | refine .ix ?_ | refine .pt ?_ | refine .pf ?_ | refine .bx ?_ | refine .al ?_ | refine .st ?_ | refine .ad ?_ | refine .sb ?_ | refine .mf ?_ | refine .cl ?_ | refine .cw ?_ | refine .ck ?_ | fail
  refine HCode.forK s.defs.length (fun k => [(3, .int .i64 k), (1, .rptr s.enc)]) (fun _ => ⟨[], []⟩) (fun _ => True) ⟨rfl, rfl, trivial⟩ rfl trivial fun k hk _ => ?_
  by_cases h1 : k < s.defs.length
  · have d1 : decide ((k : Int) < (s.defs.length : Int)) = true := by simp [h1]
    have x1 := map_get' (f := Dfn.enc) h1
    have hdz := Sch.dfn (List.getElem_mem h1)
    have hsd := hsv _ (List.getElem_mem h1)
    generalize hd : s.defs[k] = d at *
    have hdl := d.lens
    have hsm := d.sums
    repeat' first | refine A.allocv (d := 4) rfl rfl rfl rfl rfl ?_ | refine HCode.turn 4 rfl (Turn.freezeP rfl rfl rfl rfl) ?_ | refine .seq ?_ | refine .rg ?_ | refine .rd ?_ | refine .block ?_ | refine .scope ?_ | refine .skip ?_ | refine .label ?_ | refine .exit ?_ | refine .ret ?_ | refine .ct ?_ | refine .cf ?_ | refine .cy ?_ | refine .cn ?_ | (refine .cond rfl ?_ ?_ <;> intro hc) | refine A.nil_seq ?_ | refine .nl ?_ | refine .dd ?_ | refine .ys ?_ | refine .no ?_ | (refine A.guard rfl ?_ ?_ <;> intro hc) | refine .lb ?_ | refine .ln ?_ | refine .ls ?_ | refine .pv ?_ | refine .ix ?_ | refine .pt ?_ | refine .pf ?_ | refine .bx ?_ | refine .al ?_ | refine .st ?_ | refine .ad ?_ | refine .sb ?_ | refine .mf ?_ | refine .cl ?_ | refine .cw ?_ | refine .ck ?_ | refine A.vstore (agg := true) rfl rfl rfl rfl rfl rfl rfl rfl rfl rfl rfl ?_ | fail
    refine HCode.forK d.fields.length (fun j => [(5, .int .i64 j), (4, .rptr d.enc), (3, .int .i64 k), (1, .rptr s.enc)]) (fun _ => ⟨[], [.len 2]⟩) (fun _ => True) ⟨rfl, rfl, rfl, rfl, trivial⟩ rfl trivial fun j hj _ => ?_
    by_cases h2 : j < d.fields.length
    · have d2 : decide ((j : Int) < (d.fields.length : Int)) = true := by simp [h2]
      have x2 := map_get' (f := Fld.enc) h2
      cases kk : (d.kind == 1)
      · repeat' first | refine .seq ?_ | refine .rg ?_ | refine .rd ?_ | refine .block ?_ | refine .scope ?_ | refine .skip ?_ | refine .label ?_ | refine .exit ?_ | refine .ret ?_ | refine .ct ?_ | refine .cf ?_ | refine .cy ?_ | refine .cn ?_ | (refine .cond rfl ?_ ?_ <;> intro hc) | refine A.nil_seq ?_ | refine .nl ?_ | refine .dd ?_ | refine .ys ?_ | refine .no ?_ | (refine A.guard rfl ?_ ?_ <;> intro hc) | refine .lb ?_ | refine .ln ?_ | refine .ls ?_ | refine .pv ?_ | refine .ix ?_ | refine .pt ?_ | refine .pf ?_ | refine .bx ?_ | refine .al ?_ | refine .st ?_ | refine .ad ?_ | refine .sb ?_ | refine .mf ?_ | refine .cl ?_ | refine .cw ?_ | refine .ck ?_ | fail
        exact ⟨h1, ⟨rfl, rfl, trivial⟩, by simp [belowS, AV.low, AV.low_of_closed, Sch.closed], rfl, rfl, trivial⟩
      have hof := hsd (by simpa using kk) _ (List.getElem_mem h2)
      have hfz := sumSize_mem (size := Fld.size) (List.getElem_mem h2)
      generalize hf : d.fields[j] = f at *
      have hO := bOf s d.name f (by omega) (by omega)
      have hgt := gets_of hof
      have hpl := sumSize_length Par.size_pos f.params
      have hfm := f.sums
      rw [hof] at hO
      generalize (ofB s d.name f).1 = b at *
      repeat' first | refine A.allocv (d := 6) rfl rfl rfl rfl rfl ?_ | refine HCode.turn 6 rfl (Turn.freezeP rfl rfl rfl rfl) ?_ | refine A.allocv (d := 7) rfl rfl rfl rfl rfl ?_ | refine HCode.turn 7 rfl (Turn.freezeP rfl rfl rfl rfl) ?_ | refine .seq ?_ | refine .rg ?_ | refine .rd ?_ | refine .block ?_ | refine .scope ?_ | refine .skip ?_ | refine .label ?_ | refine .exit ?_ | refine .ret ?_ | refine .ct ?_ | refine .cf ?_ | refine .cy ?_ | refine .cn ?_ | (refine .cond rfl ?_ ?_ <;> intro hc) | refine A.nil_seq ?_ | refine .nl ?_ | refine .dd ?_ | refine .ys ?_ | refine .no ?_ | (refine A.guard rfl ?_ ?_ <;> intro hc) | refine .lb ?_ | refine .ln ?_ | refine .ls ?_ | refine .pv ?_ | refine .ix ?_ | refine .pt ?_ | refine .pf ?_ | refine .bx ?_ | refine .al ?_ | refine .st ?_ | refine .ad ?_ | refine .sb ?_ | refine .mf ?_ | refine .cl ?_ | refine .cw ?_ | refine .ck ?_ | refine A.vstore (agg := true) rfl rfl rfl rfl rfl rfl rfl rfl rfl rfl rfl ?_ | fail
      refine HCode.forK f.params.length (fun i => [(10, .int .i64 i), (9, .bool ((b.how != 2) || (f.params.take i).any (gP f b))), (7, .rptr b.enc), (6, .rptr f.enc), (5, .int .i64 j), (4, .rptr d.enc), (3, .int .i64 k), (1, .rptr s.enc)]) (fun _ => ⟨[], [.len 2, .len 2, .len 2]⟩) (fun _ => True) ⟨rfl, by simp; rfl, rfl, rfl, rfl, rfl, rfl, rfl, trivial⟩ rfl trivial fun i hi _ => ?_
      by_cases h3 : i < f.params.length
      · have d3 : decide ((i : Int) < (f.params.length : Int)) = true := by simp [h3]
        have x3 := map_get' (f := Par.enc) h3
        have hnx := anyG_take (gP f b) h3
        have hor : ((b.how != 2) || (f.params.take (i + 1)).any (gP f b)) = (((b.how != 2) || (f.params.take i).any (gP f b)) || gP f b f.params[i]) := by rw [hnx, Bool.or_assoc]
        generalize ((b.how != 2) || (f.params.take i).any (gP f b)) = fd at *
        rw [show gP f b f.params[i] = (f.params[i].name == b.arg && (f.params[i].t.lists == f.t.lists && (f.params[i].t.name == sID || f.params[i].t.name == sString))) from rfl] at hor
        generalize f.params[i] = p at *
        have i1 : (p.t.name == [73, 68]) = (p.t.name == sID) := rfl
        have i2 : (p.t.name == [83, 116, 114, 105, 110, 103]) = (p.t.name == sString) := rfl
        cases fd
        · cases a1 : (p.name == b.arg) <;> rw [a1] at hor
          · repeat' first | refine A.allocv (d := 11) rfl rfl rfl rfl rfl ?_ | refine HCode.turn 11 rfl (Turn.freezeP rfl rfl rfl rfl) ?_ | refine .seq ?_ | refine .rg ?_ | refine .rd ?_ | refine .block ?_ | refine .scope ?_ | refine .skip ?_ | refine .label ?_ | refine .exit ?_ | refine .ret ?_ | refine .ct ?_ | refine .cf ?_ | refine .cy ?_ | refine .cn ?_ | (refine .cond rfl ?_ ?_ <;> intro hc) | refine A.nil_seq ?_ | refine .nl ?_ | refine .dd ?_ | refine .ys ?_ | refine .no ?_ | (refine A.guard rfl ?_ ?_ <;> intro hc) | refine .lb ?_ | refine .ln ?_ | refine .ls ?_ | refine .pv ?_ | refine .ix ?_ | refine .pt ?_ | refine .pf ?_ | refine .bx ?_ | refine .al ?_ | refine .st ?_ | refine .ad ?_ | refine .sb ?_ | refine .mf ?_ | refine .cl ?_ | refine .cw ?_ | refine .ck ?_ | refine A.vstore (agg := true) rfl rfl rfl rfl rfl rfl rfl rfl rfl rfl rfl ?_ | fail
            exact ⟨h3, ⟨rfl, congrArg AV.bool hor.symm, rfl, rfl, rfl, rfl, rfl, rfl, trivial⟩, by simp [belowS, AV.low, AV.low_of_closed, Sch.closed, Dfn.closed, Fld.closed], rfl, rfl, trivial⟩
          cases a2 : (p.t.lists == f.t.lists) <;> rw [a2] at hor
          · repeat' first | refine A.allocv (d := 11) rfl rfl rfl rfl rfl ?_ | refine HCode.turn 11 rfl (Turn.freezeP rfl rfl rfl rfl) ?_ | refine .seq ?_ | refine .rg ?_ | refine .rd ?_ | refine .block ?_ | refine .scope ?_ | refine .skip ?_ | refine .label ?_ | refine .exit ?_ | refine .ret ?_ | refine .ct ?_ | refine .cf ?_ | refine .cy ?_ | refine .cn ?_ | (refine .cond rfl ?_ ?_ <;> intro hc) | refine A.nil_seq ?_ | refine .nl ?_ | refine .dd ?_ | refine .ys ?_ | refine .no ?_ | (refine A.guard rfl ?_ ?_ <;> intro hc) | refine .lb ?_ | refine .ln ?_ | refine .ls ?_ | refine .pv ?_ | refine .ix ?_ | refine .pt ?_ | refine .pf ?_ | refine .bx ?_ | refine .al ?_ | refine .st ?_ | refine .ad ?_ | refine .sb ?_ | refine .mf ?_ | refine .cl ?_ | refine .cw ?_ | refine .ck ?_ | refine A.vstore (agg := true) rfl rfl rfl rfl rfl rfl rfl rfl rfl rfl rfl ?_ | fail
            exact ⟨h3, ⟨rfl, congrArg AV.bool hor.symm, rfl, rfl, rfl, rfl, rfl, rfl, trivial⟩, by simp [belowS, AV.low, AV.low_of_closed, Sch.closed, Dfn.closed, Fld.closed], rfl, rfl, trivial⟩
          cases a3 : (p.t.name == sID) <;> rw [a3] at hor i1
          · repeat' first | refine A.allocv (d := 11) rfl rfl rfl rfl rfl ?_ | refine HCode.turn 11 rfl (Turn.freezeP rfl rfl rfl rfl) ?_ | refine .seq ?_ | refine .rg ?_ | refine .rd ?_ | refine .block ?_ | refine .scope ?_ | refine .skip ?_ | refine .label ?_ | refine .exit ?_ | refine .ret ?_ | refine .ct ?_ | refine .cf ?_ | refine .cy ?_ | refine .cn ?_ | (refine .cond rfl ?_ ?_ <;> intro hc) | refine A.nil_seq ?_ | refine .nl ?_ | refine .dd ?_ | refine .ys ?_ | refine .no ?_ | (refine A.guard rfl ?_ ?_ <;> intro hc) | refine .lb ?_ | refine .ln ?_ | refine .ls ?_ | refine .pv ?_ | refine .ix ?_ | refine .pt ?_ | refine .pf ?_ | refine .bx ?_ | refine .al ?_ | refine .st ?_ | refine .ad ?_ | refine .sb ?_ | refine .mf ?_ | refine .cl ?_ | refine .cw ?_ | refine .ck ?_ | refine A.vstore (agg := true) rfl rfl rfl rfl rfl rfl rfl rfl rfl rfl rfl ?_ | fail
            exact ⟨h3, ⟨rfl, congrArg AV.bool (by rw [hor]; rfl), rfl, rfl, rfl, rfl, rfl, rfl, trivial⟩, by simp [belowS, AV.low, AV.low_of_closed, Sch.closed, Dfn.closed, Fld.closed], rfl, rfl, trivial⟩
          · repeat' first | refine A.allocv (d := 11) rfl rfl rfl rfl rfl ?_ | refine HCode.turn 11 rfl (Turn.freezeP rfl rfl rfl rfl) ?_ | refine .seq ?_ | refine .rg ?_ | refine .rd ?_ | refine .block ?_ | refine .scope ?_ | refine .skip ?_ | refine .label ?_ | refine .exit ?_ | refine .ret ?_ | refine .ct ?_ | refine .cf ?_ | refine .cy ?_ | refine .cn ?_ | (refine .cond rfl ?_ ?_ <;> intro hc) | refine A.nil_seq ?_ | refine .nl ?_ | refine .dd ?_ | refine .ys ?_ | refine .no ?_ | (refine A.guard rfl ?_ ?_ <;> intro hc) | refine .lb ?_ | refine .ln ?_ | refine .ls ?_ | refine .pv ?_ | refine .ix ?_ | refine .pt ?_ | refine .pf ?_ | refine .bx ?_ | refine .al ?_ | refine .st ?_ | refine .ad ?_ | refine .sb ?_ | refine .mf ?_ | refine .cl ?_ | refine .cw ?_ | refine .ck ?_ | refine A.vstore (agg := true) rfl rfl rfl rfl rfl rfl rfl rfl rfl rfl rfl ?_ | fail
            exact ⟨h3, ⟨rfl, congrArg AV.bool hor.symm, rfl, rfl, rfl, rfl, rfl, rfl, trivial⟩, by simp [belowS, AV.low, AV.low_of_closed, Sch.closed, Dfn.closed, Fld.closed], rfl, rfl, trivial⟩
        · repeat' first | refine A.allocv (d := 11) rfl rfl rfl rfl rfl ?_ | refine HCode.turn 11 rfl (Turn.freezeP rfl rfl rfl rfl) ?_ | refine .seq ?_ | refine .rg ?_ | refine .rd ?_ | refine .block ?_ | refine .scope ?_ | refine .skip ?_ | refine .label ?_ | refine .exit ?_ | refine .ret ?_ | refine .ct ?_ | refine .cf ?_ | refine .cy ?_ | refine .cn ?_ | (refine .cond rfl ?_ ?_ <;> intro hc) | refine A.nil_seq ?_ | refine .nl ?_ | refine .dd ?_ | refine .ys ?_ | refine .no ?_ | (refine A.guard rfl ?_ ?_ <;> intro hc) | refine .lb ?_ | refine .ln ?_ | refine .ls ?_ | refine .pv ?_ | refine .ix ?_ | refine .pt ?_ | refine .pf ?_ | refine .bx ?_ | refine .al ?_ | refine .st ?_ | refine .ad ?_ | refine .sb ?_ | refine .mf ?_ | refine .cl ?_ | refine .cw ?_ | refine .ck ?_ | refine A.vstore (agg := true) rfl rfl rfl rfl rfl rfl rfl rfl rfl rfl rfl ?_ | fail
          exact ⟨h3, ⟨rfl, congrArg AV.bool (by rw [hor]; rfl), rfl, rfl, rfl, rfl, rfl, rfl, trivial⟩, by simp [belowS, AV.low, AV.low_of_closed, Sch.closed, Dfn.closed, Fld.closed], rfl, rfl, trivial⟩
      · have d3 : decide ((i : Int) < (f.params.length : Int)) = false := by simp; omega
        obtain rfl : i = f.params.length := by omega
        have hend : ((b.how != 2) || (f.params.take f.params.length).any (gP f b)) = true := by
          rw [List.take_length]
          by_cases e : b.how = 2
          · obtain ⟨p, hp, q1, q2, q3⟩ := hgt e
            rw [Bool.or_eq_true, List.any_eq_true]
            refine .inr ⟨p, hp, ?_⟩
            unfold gP
            rw [q1, q2]
            simpa using q3
          · simp [e]
        rw [hend]
        repeat' first | refine .seq ?_ | refine .rg ?_ | refine .rd ?_ | refine .block ?_ | refine .scope ?_ | refine .skip ?_ | refine .label ?_ | refine .exit ?_ | refine .ret ?_ | refine .ct ?_ | refine .cf ?_ | refine .cy ?_ | refine .cn ?_ | (refine .cond rfl ?_ ?_ <;> intro hc) | refine A.nil_seq ?_ | refine .nl ?_ | refine .dd ?_ | refine .ys ?_ | refine .no ?_ | (refine A.guard rfl ?_ ?_ <;> intro hc) | refine .lb ?_ | refine .ln ?_ | refine .ls ?_ | refine .pv ?_ | refine .ix ?_ | refine .pt ?_ | refine .pf ?_ | refine .bx ?_ | refine .al ?_ | refine .st ?_ | refine .ad ?_ | refine .sb ?_ | refine .mf ?_ | refine .cl ?_ | refine .cw ?_ | refine .ck ?_ | fail
        exact ⟨h2, ⟨rfl, rfl, rfl, rfl, trivial⟩, by simp [belowS, AV.low, AV.low_of_closed, Sch.closed, Dfn.closed], rfl, rfl, trivial⟩
    · have d2 : decide ((j : Int) < (d.fields.length : Int)) = false := by simp; omega
      repeat' first | refine .seq ?_ | refine .rg ?_ | refine .rd ?_ | refine .block ?_ | refine .scope ?_ | refine .skip ?_ | refine .label ?_ | refine .exit ?_ | refine .ret ?_ | refine .ct ?_ | refine .cf ?_ | refine .cy ?_ | refine .cn ?_ | (refine .cond rfl ?_ ?_ <;> intro hc) | refine A.nil_seq ?_ | refine .nl ?_ | refine .dd ?_ | refine .ys ?_ | refine .no ?_ | (refine A.guard rfl ?_ ?_ <;> intro hc) | refine .lb ?_ | refine .ln ?_ | refine .ls ?_ | refine .pv ?_ | refine .ix ?_ | refine .pt ?_ | refine .pf ?_ | refine .bx ?_ | refine .al ?_ | refine .st ?_ | refine .ad ?_ | refine .sb ?_ | refine .mf ?_ | refine .cl ?_ | refine .cw ?_ | refine .ck ?_ | fail
      exact ⟨h1, ⟨rfl, rfl, trivial⟩, by simp [belowS, AV.low, AV.low_of_closed, Sch.closed], rfl, rfl, trivial⟩
  · have d1 : decide ((k : Int) < (s.defs.length : Int)) = false := by simp; omega
    repeat' first | refine .seq ?_ | refine .rg ?_ | refine .rd ?_ | refine .block ?_ | refine .scope ?_ | refine .skip ?_ | refine .label ?_ | refine .exit ?_ | refine .ret ?_ | refine .ct ?_ | refine .cf ?_ | refine .cy ?_ | refine .cn ?_ | (refine .cond rfl ?_ ?_ <;> intro hc) | refine A.nil_seq ?_ | refine .nl ?_ | refine .dd ?_ | refine .ys ?_ | refine .no ?_ | (refine A.guard rfl ?_ ?_ <;> intro hc) | refine .lb ?_ | refine .ln ?_ | refine .ls ?_ | refine .pv ?_ | refine .ix ?_ | refine .pt ?_ | refine .pf ?_ | refine .bx ?_ | refine .al ?_ | refine .st ?_ | refine .ad ?_ | refine .sb ?_ | refine .mf ?_ | refine .cl ?_ | refine .cw ?_ | refine .ck ?_ | fail
    exact Fin.ret1 rfl (Weak.refl _)
end Go.Proofs.YtegakkonlhmeaaaGreatDoor
