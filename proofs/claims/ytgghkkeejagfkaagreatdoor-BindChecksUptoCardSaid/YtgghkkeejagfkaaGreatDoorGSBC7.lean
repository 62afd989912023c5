/-
  Contracts and plain facts for a law, joined.
-/
import Derived.Test.YtgghkkeejagfkaaGreatDoorGSBC1
import Derived.Test.YtgghkkeejagfkaaGreatDoorGSBC6
import Derived.Test.YtgghkkeejagfkaaGreatDoorGSBC3
import Derived.Test.YtgghkkeejagfkaaGreatDoorGSBC4
set_option maxRecDepth 100000
set_option maxHeartbeats 16000000
set_option linter.unusedVariables false
set_option linter.unusedSimpArgs false
set_option linter.unusedSectionVars false
namespace Go.Proofs.YtgghkkeejagfkaaGreatDoor
open Go Go.Av
attribute [local irreducible] HCode AOps PFn AFn Av.Step TStep
theorem all_next {α : Type} {p : α → Bool} {l : List α} {k : Nat} (h : k < l.length) (hj : (l.take k).all p = true) (hp : p l[k] = true) : (l.take (k + 1)).all p = true := by
  rw [List.take_succ_eq_append_getElem h, List.all_append, hj]; simp [hp]
theorem all_stop {α : Type} {p : α → Bool} {l : List α} {k : Nat} (h : k < l.length) (hp : p l[k] = false) : l.all p = false := by
  rw [Bool.eq_false_iff]
  intro ha
  rw [List.all_eq_true] at ha
  have := ha _ (List.getElem_mem h)
  rw [hp] at this; cases this
theorem fold_take {α β : Type} {f : β → α → β} {a : β} {l : List α} {k : Nat} (h : k < l.length) : (l.take (k + 1)).foldl f a = f ((l.take k).foldl f a) l[k] := by
  rw [List.take_succ_eq_append_getElem h, List.foldl_append]; rfl
theorem wSub (a b : Typ) (ha : a.name.length ≤ 68719476736) (hb : b.name.length ≤ 68719476736) : PFn Tryz.prog 226 [a.enc, b.enc] (.bool (subT a b)) := by
  have h1 := wRight a (by omega)
  have h2 := wRight b (by omega)
  refine AFn.plain rfl (by simp [AV.closed, AV.closedL, Typ.closed]) (AFn.enter [4] Tryz.func226 rfl rfl rfl rfl rfl (by decide) ?_)
  unfold subT
  have h1' : WeakL [a.enc] [a.enc] := WeakL.refl _
  cases c1 : rightT a <;> rw [c1] at h1
  · repeat' first | refine .br ?_ | refine .s1 ?_ | (refine .cond rfl ?_ ?_ <;> intro hc) | (refine A.guard rfl ?_ ?_ <;> intro hc) | refine A.call rfl h1 (WeakL.refl _) ?_ | fail
    exact Fin.ret1 rfl (Weak.refl _)
  cases c2 : rightT b <;> rw [c2] at h2
  · repeat' first | refine .br ?_ | refine A.call rfl h1 (WeakL.refl _) ?_ | refine A.call rfl h2 (WeakL.refl _) ?_ | refine .s1 ?_ | (refine .cond rfl ?_ ?_ <;> intro hc) | (refine A.guard rfl ?_ ?_ <;> intro hc) | fail
    exact Fin.ret1 rfl (Weak.refl _)
  cases c3 : (a.name == b.name)
  · repeat' first | refine .br ?_ | refine A.call rfl h1 (WeakL.refl _) ?_ | refine A.call rfl h2 (WeakL.refl _) ?_ | refine .s1 ?_ | (refine .cond rfl ?_ ?_ <;> intro hc) | (refine A.guard rfl ?_ ?_ <;> intro hc) | fail
    exact Fin.ret1 rfl (Weak.refl _)
  cases c4 : (a.lists == b.lists)
  · repeat' first | refine .br ?_ | refine A.call rfl h1 (WeakL.refl _) ?_ | refine A.call rfl h2 (WeakL.refl _) ?_ | refine .s1 ?_ | (refine .cond rfl ?_ ?_ <;> intro hc) | (refine A.guard rfl ?_ ?_ <;> intro hc) | fail
    exact Fin.ret1 rfl (Weak.refl _)
  repeat' first | refine .br ?_ | refine A.call rfl h1 (WeakL.refl _) ?_ | refine A.call rfl h2 (WeakL.refl _) ?_ | refine .s1 ?_ | (refine .cond rfl ?_ ?_ <;> intro hc) | (refine A.guard rfl ?_ ?_ <;> intro hc) | refine A.bclr (r := andNotI b.musts a.musts) rfl rfl rfl ?_ | fail
  exact Fin.ret1 rfl (Weak.refl _)
abbrev AddC (xs : List Str) (n : Str) : Prop := AFn Tryz.prog 198 [.slice (xs.map AV.str) (.own 0 1), .str n] ⟨[], [.len xs.length]⟩ (fun e σ => e = .ret (.slice ((addNew xs n).map AV.str) (.own 0 1)) ∧ σ = ⟨[], [.len (addNew xs n).length]⟩)
theorem dAdd (xs : List Str) (n : Str) (hx : xs.length ≤ 137438953472) : AddC xs n := by
  have hct := sContainsStr xs n (by omega)
  have hwk : WeakL [.slice (xs.map AV.str) (.own 0 1), .str n] [.slice (xs.map AV.str) .no, .str n] := WeakL.cons (Weak.no (WeakL.refl _)) (WeakL.refl _)
  refine AFn.enter [4] Tryz.func198 rfl rfl rfl rfl rfl (by decide) ?_
  unfold addNew
  by_cases c : n ∈ xs
  · rw [decide_eq_true c] at hct
    rw [if_pos c]
    repeat' first | refine A.call rfl hct hwk ?_ | refine .s1 ?_ | (refine .cond rfl ?_ ?_ <;> intro hc) | (refine A.guard rfl ?_ ?_ <;> intro hc) | fail
    exact ⟨rfl, rfl⟩
  · rw [decide_eq_false c] at hct
    rw [if_neg c]
    repeat' first | refine A.call rfl hct hwk ?_ | refine .s1 ?_ | (refine .cond rfl ?_ ?_ <;> intro hc) | (refine A.guard rfl ?_ ?_ <;> intro hc) | refine A.append (n := xs.length) rfl rfl rfl rfl rfl rfl rfl rfl (List.length_map ..) rfl (by dsimp only [List.length_cons, List.length_nil]; omega) (by dsimp only [List.length_cons, List.length_nil]; omega) rfl ?_ | fail
    exact ⟨by rw [List.map_append]; rfl, by rw [List.length_append]; rfl⟩
theorem possF_len (name : Str) (l : List Dfn) : (l.foldl (fun l x => possF l x name) []).length ≤ l.length := by
  have aux : ∀ (l : List Dfn) (a : List Str), (l.foldl (fun l x => possF l x name) a).length ≤ a.length + l.length := fun l => by
    induction l with
    | nil => intro a; simp
    | cons x l ih =>
      intro a
      rw [List.foldl_cons, List.length_cons]
      have h1 := ih (possF a x name)
      have h2 : (possF a x name).length ≤ a.length + 1 := by
        unfold possF
        split
        · exact addNew_len _ _
        · omega
      omega
  simpa using aux l []
theorem possU_len (s : Sch) (l : List Str) : (l.foldl (possU s) []).length ≤ l.length := by
  have aux : ∀ (l : List Str) (a : List Str), (l.foldl (possU s) a).length ≤ a.length + l.length := fun l => by
    induction l with
    | nil => intro a; simp
    | cons x l ih =>
      intro a
      rw [List.foldl_cons, List.length_cons]
      have h1 := ih (possU s a x)
      have h2 : (possU s a x).length ≤ a.length + 1 := by
        unfold possU
        split
        · exact addNew_len _ _
        · omega
      omega
  simpa using aux l []
theorem dPossible (s : Sch) (name : Str) (hs : s.size ≤ 1048640) : PFn Tryz.prog 145 [s.enc, .str name] (.slice ((possB s name).map AV.str) .no) := by
  have hf := dFind s name (by omega)
  have hz := findR_size (name := name) (show s.size ≤ 68719476736 by omega)
  have hl := s.len
  refine AFn.plain (str_closedL _) (by simp [AV.closed, AV.closedL, Sch.closed]) (AFn.enter [4] Tryz.func145 rfl rfl rfl rfl rfl (by decide) ?_)
  unfold possB
  unfold findR at hf hz
  cases hfo : findO s name with
  | none =>
    rw [hfo] at hf
    refine .gob ?_
    exact Fin.ret1 rfl (Weak.no (WeakL.refl _))
  | some d =>
    rw [hfo] at hf hz
    simp only at hf hz ⊢
    by_cases k1 : d.kind = 1
    · have q1 : (d.kind == 1) = true := by simp [k1]
      rw [if_pos k1]
      refine .gob ?_
      exact Fin.ret1 rfl (Weak.no (WeakL.refl _))
    · have q1 : (d.kind == 1) = false := by simp [k1]
      rw [if_neg k1]
      by_cases k2 : d.kind = 2
      · have q2 : (d.kind == 2) = true := by simp [k2]
        rw [if_pos k2]
        refine .gob ?_
        refine HCode.adopt 7 false 1 rfl rfl rfl rfl rfl rfl ?_
        refine HCode.forK s.defs.length (fun k => [(31, .int .i64 k), (30, .int .i64 s.defs.length), (29, .slice (s.defs.map Dfn.enc) .no), (1, .str name), (7, .slice (((s.defs.take k).foldl (fun l x => possF l x name) []).map AV.str) (.own 0 1))])
          (fun k => ⟨[.cells [.int .i64 d.kind, .str d.name, .slice (d.faces.map AV.str) .no, .slice (d.fields.map Fld.enc) .no, .slice (d.parts.map AV.str) .no, .slice (d.params.map Par.enc) .no]], [.len ((s.defs.take k).foldl (fun l x => possF l x name) []).length]⟩) (fun _ => True) ⟨rfl, rfl, rfl, rfl, rfl, trivial⟩ rfl trivial fun k hk _ => ?_
        by_cases h1 : k < s.defs.length
        · have d1 : decide ((k : Int) < (s.defs.length : Int)) = true := by simp [h1]
          have x1 := map_get' (f := Dfn.enc) h1
          have hds := Sch.dfn (List.getElem_mem h1)
          have hdl := s.defs[k].lens
          have hct := sContainsStr s.defs[k].faces name (by omega)
          have hst := fold_take (f := fun l x => possF l x name) (a := []) h1
          have hpl := possF_len name (s.defs.take k)
          rw [List.length_take] at hpl
          have had := dAdd ((s.defs.take k).foldl (fun l x => possF l x name) []) s.defs[k].name (by omega)
          generalize (s.defs.take k).foldl (fun l x => possF l x name) [] = xs at had hst
          by_cases j1 : s.defs[k].kind = 1
          · have r1 : (s.defs[k].kind == 1) = true := by simp [j1]
            by_cases c : name ∈ s.defs[k].faces
            · rw [decide_eq_true c] at hct
              replace hst := hst.trans (show possF xs s.defs[k] name = addNew xs s.defs[k].name by unfold possF; rw [if_pos ⟨j1, c⟩])
              repeat' first | refine .s1 ?_ | (refine .cond rfl ?_ ?_ <;> intro hc) | (refine A.guard rfl ?_ ?_ <;> intro hc) | refine A.callG 0 rfl had rfl (str_closedL _) (str_closedL _) (by simp [AV.closedL, AV.closed]) (WeakL.refl _) rfl ?_ | fail
              exact ⟨h1, ⟨rfl, rfl, rfl, rfl, by rw [hst]; rfl, trivial⟩, by simp [-List.map_take, belowS, AV.low], by simp [belowB, belowT, Ob.low, Tok.low, AV.lowL, AV.low], by rw [hst]; rfl, trivial⟩
            · rw [decide_eq_false c] at hct
              replace hst := hst.trans (show possF xs s.defs[k] name = xs by unfold possF; rw [if_neg (fun h => c h.2)])
              refine .go ?_
              exact ⟨h1, ⟨rfl, rfl, rfl, rfl, by rw [hst]; rfl, trivial⟩, by simp [-List.map_take, belowS, AV.low], by simp [belowB, belowT, Ob.low, Tok.low, AV.lowL, AV.low], by rw [hst]; rfl, trivial⟩
          · have r1 : (s.defs[k].kind == 1) = false := by simp [j1]
            replace hst := hst.trans (show possF xs s.defs[k] name = xs by unfold possF; rw [if_neg (fun h => j1 h.1)])
            refine .go ?_
            exact ⟨h1, ⟨rfl, rfl, rfl, rfl, by rw [hst]; rfl, trivial⟩, by simp [-List.map_take, belowS, AV.low], by simp [belowB, belowT, Ob.low, Tok.low, AV.lowL, AV.low], by rw [hst]; rfl, trivial⟩
        · have d1 : decide ((k : Int) < (s.defs.length : Int)) = false := by simp; omega
          obtain rfl : k = s.defs.length := by omega
          rw [List.take_length]
          refine .go ?_
          exact Fin.ret1 rfl (Weak.no (WeakL.refl _))
      · have q2 : (d.kind == 2) = false := by simp [k2]
        rw [if_neg k2]
        by_cases k3 : d.kind = 3
        · have q3 : (d.kind == 3) = true := by simp [k3]
          rw [if_pos k3]
          refine .gob ?_
          refine HCode.adopt 7 false 1 rfl rfl rfl rfl rfl rfl ?_
          refine HCode.forK d.parts.length (fun k => [(54, .int .i64 k), (53, .int .i64 d.parts.length), (52, .slice (d.parts.map AV.str) .no), (2, .rptr s.enc), (7, .slice (((d.parts.take k).foldl (possU s) []).map AV.str) (.own 0 1))])
            (fun k => ⟨[.cells [.int .i64 d.kind, .str d.name, .slice (d.faces.map AV.str) .no, .slice (d.fields.map Fld.enc) .no, .slice (d.parts.map AV.str) .no, .slice (d.params.map Par.enc) .no]], [.len ((d.parts.take k).foldl (possU s) []).length]⟩) (fun _ => True) ⟨rfl, rfl, rfl, rfl, rfl, trivial⟩ rfl trivial fun k hk _ => ?_
          by_cases h1 : k < d.parts.length
          · have d1 : decide ((k : Int) < (d.parts.length : Int)) = true := by simp [h1]
            have x1 := map_get' (f := AV.str) h1
            have hkd := dKind s d.parts[k] [1] (by omega) (by decide)
            have hst := fold_take (f := possU s) (a := []) h1
            have hpl := possU_len s (d.parts.take k)
            rw [List.length_take] at hpl
            have had := dAdd ((d.parts.take k).foldl (possU s) []) d.parts[k] (by omega)
            generalize (d.parts.take k).foldl (possU s) [] = xs at had hst
            cases c : kindB s d.parts[k] [1] with
            | true =>
              rw [c] at hkd
              replace hst := hst.trans (show possU s xs d.parts[k] = addNew xs d.parts[k] by unfold possU; rw [if_pos c])
              repeat' first | refine .s1 ?_ | (refine .cond rfl ?_ ?_ <;> intro hc) | (refine A.guard rfl ?_ ?_ <;> intro hc) | refine A.callG 0 rfl had rfl (str_closedL _) (str_closedL _) (by simp [AV.closedL, AV.closed]) (WeakL.refl _) rfl ?_ | fail
              exact ⟨h1, ⟨rfl, rfl, rfl, rfl, by rw [hst]; rfl, trivial⟩, by simp [-List.map_take, belowS, AV.low], by simp [belowB, belowT, Ob.low, Tok.low, AV.lowL, AV.low], by rw [hst]; rfl, trivial⟩
            | false =>
              rw [c] at hkd
              replace hst := hst.trans (show possU s xs d.parts[k] = xs by unfold possU; rw [if_neg (by rw [c]; decide)])
              refine .go ?_
              exact ⟨h1, ⟨rfl, rfl, rfl, rfl, by rw [hst]; rfl, trivial⟩, by simp [-List.map_take, belowS, AV.low], by simp [belowB, belowT, Ob.low, Tok.low, AV.lowL, AV.low], by rw [hst]; rfl, trivial⟩
          · have d1 : decide ((k : Int) < (d.parts.length : Int)) = false := by simp; omega
            obtain rfl : k = d.parts.length := by omega
            rw [List.take_length]
            refine .go ?_
            exact Fin.ret1 rfl (Weak.no (WeakL.refl _))
        · have q3 : (d.kind == 3) = false := by simp [k3]
          rw [if_neg k3]
          refine .gob ?_
          exact Fin.ret1 rfl (Weak.no (WeakL.refl _))
theorem poss_len (s : Sch) (name : Str) (hs : s.size ≤ 1048640) : (possB s name).length ≤ 68719476736 := by
  have hz := findR_size (name := name) (show s.size ≤ 68719476736 by omega)
  have hl := s.len
  unfold findR at hz
  unfold possB
  cases hfo : findO s name with
  | none => simp
  | some d =>
    rw [hfo] at hz
    simp only at hz ⊢
    split
    · simp
    · split
      · have := possF_len name s.defs; omega
      · split
        · have := possU_len s d.parts; omega
        · simp
theorem dSub (s : Sch) (a b : Typ) (hs : s.size ≤ 1048640) (ha : a.name.length ≤ 68719476736) (hb : b.name.length ≤ 68719476736) : PFn Tryz.prog 184 [s.enc, a.enc, b.enc] (.bool (subB s a b)) := by
  have h1 := wRight a (by omega)
  have h2 := wSub ⟨b.name, a.lists, a.musts⟩ b hb hb
  have h3 := dFind s a.name (by omega)
  have hz := findR_size (name := a.name) (show s.size ≤ 68719476736 by omega)
  have h4 := dPossible s b.name hs
  have h5 := sContainsStr (possB s b.name) a.name (by have := poss_len s b.name hs; omega)
  have h6 := dKind s b.name [2] (by omega) (by decide)
  have h7 := sContainsStr (findR s a.name).1.faces b.name (by omega)
  refine AFn.plain rfl (by simp [AV.closed, AV.closedL, Sch.closed, Typ.closed]) (AFn.enter [6] Tryz.func184 rfl rfl rfl rfl rfl (by decide) ?_)
  unfold subB
  generalize findR s a.name = r at h3 h7
  obtain ⟨x, ok⟩ := r
  simp only at h3 h7 ⊢
  cases c1 : rightT a <;> rw [c1] at h1
  · refine .gob ?_
    exact Fin.ret1 rfl (Weak.refl _)
  cases c2 : subT ⟨b.name, a.lists, a.musts⟩ b <;> rw [c2] at h2
  · refine .gob ?_
    exact Fin.ret1 rfl (Weak.refl _)
  cases c3 : (a.name == b.name)
  · cases ok
    · refine .gob ?_
      exact Fin.ret1 rfl (Weak.refl _)
    · cases c4 : (x.kind == 1)
      · cases c5 : (x.kind == 2)
        · repeat' first | refine .br ?_ | refine A.call rfl h7 (WeakL.refl _) ?_ | refine .s1 ?_ | (refine .cond rfl ?_ ?_ <;> intro hc) | (refine A.guard rfl ?_ ?_ <;> intro hc) | fail
          exact Fin.ret1 rfl (Weak.refl _)
        · cases c6 : kindB s b.name [2] <;> rw [c6] at h6
          all_goals
            repeat' first | refine .br ?_ | refine A.call rfl h7 (WeakL.refl _) ?_ | refine .s1 ?_ | (refine .cond rfl ?_ ?_ <;> intro hc) | (refine A.guard rfl ?_ ?_ <;> intro hc) | fail
            exact Fin.ret1 rfl (Weak.refl _)
      · have c5 : (x.kind == 2) = false := by
          have : x.kind = 1 := by simpa using c4
          rw [this]; rfl
        rw [c5]
        cases c6 : decide (a.name ∈ possB s b.name) <;> rw [c6] at h5
        all_goals
          repeat' first | refine .br ?_ | refine A.call rfl h5 (WeakL.refl _) ?_ | refine .s1 ?_ | (refine .cond rfl ?_ ?_ <;> intro hc) | (refine A.guard rfl ?_ ?_ <;> intro hc) | fail
          exact Fin.ret1 rfl (Weak.refl _)
  · refine .gob ?_
    exact Fin.ret1 rfl (Weak.refl _)
def typeFs2 : List Field := [{ name := "Name", type := 9, offset := 0, embedded := false, tag := "", pkgPath := "", byteOffset := 0 }, { name := "Lists", type := 3, offset := 1, embedded := false, tag := "", pkgPath := "", byteOffset := 16 }, { name := "Musts", type := 3, offset := 2, embedded := false, tag := "", pkgPath := "", byteOffset := 24 }]
theorem eq_type2 : EqT Tryz.prog 32 typeFs2 := ⟨Tryz.underlying32, by kernel_rfl, by kernel_rfl, by decide⟩
theorem typ_eq (a b : Typ) : decide (a = b) = (a.name == b.name && (a.lists == b.lists && (a.musts == b.musts && true))) := by
  obtain ⟨n1, l1, m1⟩ := a
  obtain ⟨n2, l2, m2⟩ := b
  rw [Bool.eq_iff_iff, decide_eq_true_eq]
  simp
def takes1 (f : Fld) (p : Par) : Bool := match parO f.params p.name with | none => false | some q => decide (q.t = p.t)
def takes2 (g : Fld) (q : Par) : Bool := !((parO g.params q.name).isNone && reqB q)
theorem takes_eq (f g : Fld) : takesB f g = (g.params.all (takes1 f) && f.params.all (takes2 g)) := rfl
theorem wTakes (f g : Fld) (hf : f.size ≤ 1048640) (hg : g.size ≤ 1048640) : PFn Tryz.prog 185 [f.enc, g.enc] (.bool (takesB f g)) := by
  have hfp : sumSize Par.size f.params ≤ f.size := by unfold Fld.size; omega
  have hgp : sumSize Par.size g.params ≤ g.size := by unfold Fld.size; omega
  have hfl := sumSize_length Par.size_pos f.params
  have hgl := sumSize_length Par.size_pos g.params
  refine AFn.plain rfl (by simp [AV.closed, AV.closedL, Fld.closed]) (AFn.enter [4] Tryz.func185 rfl rfl rfl rfl rfl (by decide) ?_)
  rw [takes_eq]
  refine .gob ?_
  refine HCode.forK g.params.length (fun k => [(16, .int .i64 k), (15, .int .i64 g.params.length), (14, .slice (g.params.map Par.enc) .no), (2, .rptr f.enc), (3, .rptr g.enc)]) (fun _ => ⟨[], []⟩) (fun k => (g.params.take k).all (takes1 f) = true)
    ⟨rfl, rfl, rfl, rfl, rfl, trivial⟩ rfl (by simp) fun k hk hj => ?_
  by_cases h1 : k < g.params.length
  · have d1 : decide ((k : Int) < (g.params.length : Int)) = true := by simp [h1]
    have x1 := map_get' (f := Par.enc) h1
    have hpar := lParam f.params g.params[k].name (by omega)
    have hnx := all_next (p := takes1 f) h1 hj
    have hsp := all_stop (p := takes1 f) h1
    unfold takes1 at hnx hsp
    unfold parR at hpar
    cases ho : parO f.params g.params[k].name with
    | none =>
      rw [ho] at hpar hnx hsp
      have ha : g.params.all (takes1 f) = false := hsp rfl
      rw [ha]
      refine .go ?_
      exact Fin.ret1 rfl (Weak.refl _)
    | some q =>
      rw [ho] at hpar hnx hsp
      simp only at hpar hnx hsp
      rw [typ_eq] at hnx hsp
      have hq : eqFs Tryz.prog typeFs2 0 [.str q.t.name, .int .i64 q.t.lists, .int .i64 q.t.musts] [.str g.params[k].t.name, .int .i64 g.params[k].t.lists, .int .i64 g.params[k].t.musts] = some (q.t.name == g.params[k].t.name && (q.t.lists == g.params[k].t.lists && (q.t.musts == g.params[k].t.musts && true))) := rfl
      generalize (q.t.name == g.params[k].t.name && (q.t.lists == g.params[k].t.lists && (q.t.musts == g.params[k].t.musts && true))) = b at hq hnx hsp
      cases b with
      | true =>
        have hj' := hnx rfl
        repeat' first | refine .s1 ?_ | (refine .cond rfl ?_ ?_ <;> intro hc) | (refine A.guard rfl ?_ ?_ <;> intro hc) | refine A.neT eq_type2 rfl rfl hq ?_ | fail
        exact ⟨h1, ⟨rfl, rfl, rfl, rfl, rfl, trivial⟩, by simp [belowS, AV.low], rfl, rfl, hj'⟩
      | false =>
        have ha : g.params.all (takes1 f) = false := hsp rfl
        rw [ha]
        repeat' first | refine .s1 ?_ | (refine .cond rfl ?_ ?_ <;> intro hc) | (refine A.guard rfl ?_ ?_ <;> intro hc) | refine A.neT eq_type2 rfl rfl hq ?_ | fail
        exact Fin.ret1 rfl (Weak.refl _)
  · have d1 : decide ((k : Int) < (g.params.length : Int)) = false := by simp; omega
    obtain rfl : k = g.params.length := by omega
    rw [List.take_length] at hj
    rw [hj, Bool.true_and]
    refine .go ?_
    refine HCode.forK f.params.length (fun k => [(41, .int .i64 k), (40, .int .i64 f.params.length), (39, .slice (f.params.map Par.enc) .no), (3, .rptr g.enc)]) (fun _ => ⟨[], []⟩) (fun k => (f.params.take k).all (takes2 g) = true)
      ⟨rfl, rfl, rfl, rfl, trivial⟩ rfl (by simp) fun k hk hj2 => ?_
    by_cases h2 : k < f.params.length
    · have d2 : decide ((k : Int) < (f.params.length : Int)) = true := by simp [h2]
      have x2 := map_get' (f := Par.enc) h2
      have hpar := lParam g.params f.params[k].name (by omega)
      have hrq := lRequired f.params[k] (by have := sumSize_mem (size := Par.size) (List.getElem_mem h2); omega)
      have hnx := all_next (p := takes2 g) h2 hj2
      have hsp := all_stop (p := takes2 g) h2
      unfold takes2 at hnx hsp
      unfold parR at hpar
      cases ho : parO g.params f.params[k].name with
      | none =>
        rw [ho] at hpar hnx hsp
        cases cr : reqB f.params[k] <;> rw [cr] at hrq hnx hsp
        · have hj' := hnx rfl
          refine .go ?_
          exact ⟨h2, ⟨rfl, rfl, rfl, rfl, trivial⟩, by simp [belowS, AV.low], rfl, rfl, hj'⟩
        · have ha : f.params.all (takes2 g) = false := hsp rfl
          rw [ha]
          refine .go ?_
          exact Fin.ret1 rfl (Weak.refl _)
      | some q =>
        rw [ho] at hpar hnx
        have hj' := hnx rfl
        refine .go ?_
        exact ⟨h2, ⟨rfl, rfl, rfl, rfl, trivial⟩, by simp [belowS, AV.low], rfl, rfl, hj'⟩
    · have d2 : decide ((k : Int) < (f.params.length : Int)) = false := by simp; omega
      obtain rfl : k = f.params.length := by omega
      rw [List.take_length] at hj2
      rw [hj2]
      refine .go ?_
      exact Fin.ret1 rfl (Weak.refl _)
theorem wHas1 (f g : Fld) : PFn Tryz.prog 183 [f.enc, .rptr g.enc] (.bool (f.name == g.name)) := by
  refine AFn.plain rfl (by simp [AV.closed, AV.closedL, Fld.closed]) (AFn.enter [3] Tryz.func183 rfl rfl rfl rfl rfl (by decide) ?_)
  refine .gob ?_
  exact Fin.ret1 rfl (Weak.refl _)
def has1 (s : Sch) (d : Dfn) (g : Fld) : Bool := match fldO d.fields g.name with | none => false | some f => subB s f.t g.t && takesB f g
theorem findR_fields {s : Sch} {name : Str} {g : Fld} (hg : g ∈ (findR s name).1.fields) : g.size ≤ s.size := by
  rcases findR_in s name with h1 | h1 | h1
  · have h2 := Sch.dfn h1
    have h3 := sumSize_mem (size := Fld.size) hg
    have h4 := (findR s name).1.sums
    omega
  · rw [h1] at hg; simp at hg
  · rw [h1] at hg; simp [zeroD] at hg
theorem wHas (s : Sch) (d : Dfn) (face : Str) (hs : s.size ≤ 1048640) (hd : d.size ≤ 1048640) : PFn Tryz.prog 113 [s.enc, d.enc, .str face] (.bool (hasB s d face)) := by
  have hf := dFind s face (by omega)
  have hz := findR_size (name := face) (show s.size ≤ 68719476736 by omega)
  have hdl := d.lens
  have hds := d.sums
  refine AFn.plain rfl (by simp [AV.closed, AV.closedL, Sch.closed, Dfn.closed]) (AFn.enter [6] Tryz.func113 rfl rfl rfl rfl rfl (by decide) ?_)
  have e : hasB s d face = (findR s face).1.fields.all (has1 s d) := rfl
  rw [e]
  have hgs : ∀ g ∈ (findR s face).1.fields, g.size ≤ s.size := fun g hg => findR_fields hg
  generalize findR s face = r at hf hz hgs
  obtain ⟨x, ok⟩ := r
  simp only at hf hz hgs ⊢
  refine .gob ?_
  refine HCode.forK x.fields.length (fun k => [(21, .int .i64 k), (20, .int .i64 x.fields.length), (19, .slice (x.fields.map Fld.enc) .no), (3, .rptr s.enc), (4, .rptr d.enc)]) (fun _ => ⟨[.cells [.int .i64 x.kind, .str x.name, .slice (x.faces.map AV.str) .no, .slice (x.fields.map Fld.enc) .no, .slice (x.parts.map AV.str) .no, .slice (x.params.map Par.enc) .no]], []⟩) (fun k => (x.fields.take k).all (has1 s d) = true)
    ⟨rfl, rfl, rfl, rfl, rfl, trivial⟩ rfl (by simp) fun k hk hj => ?_
  by_cases h1 : k < x.fields.length
  · have d1 : decide ((k : Int) < (x.fields.length : Int)) = true := by simp [h1]
    have x1 := map_get' (f := Fld.enc) h1
    have hgz := hgs _ (List.getElem_mem h1)
    have hgl : x.fields[k].t.name.length ≤ x.fields[k].size := by unfold Fld.size Typ.size; omega
    have hix := sIndexFFld d.fields 183 [.rptr x.fields[k].enc] (fun f => f.name == x.fields[k].name) (by omega) (by simp [AV.closed, AV.closedL, Fld.closed]) (fun f _ => wHas1 f _)
    have hnx := all_next (p := has1 s d) h1 hj
    have hsp := all_stop (p := has1 s d) h1
    unfold has1 fldO at hnx hsp
    rcases idxFrom_spec (fun f : Fld => f.name == x.fields[k].name) d.fields 0 with ⟨e1, e2⟩ | ⟨j, hj1, e1, e2⟩
    · rw [e1] at hix
      rw [e2] at hnx hsp
      have ha : x.fields.all (has1 s d) = false := hsp rfl
      rw [ha]
      repeat' first | refine A.allocv (d := 10) rfl rfl rfl rfl rfl ?_ | refine HCode.turn 10 rfl (Turn.freezeP rfl rfl rfl rfl) ?_ | refine .s1 ?_ | (refine .cond rfl ?_ ?_ <;> intro hc) | (refine A.guard rfl ?_ ?_ <;> intro hc) | refine A.vstore (agg := true) rfl rfl rfl rfl rfl rfl rfl rfl rfl rfl rfl ?_ | fail
      exact Fin.ret1 rfl (Weak.refl _)
    · rw [e1] at hix
      rw [e2] at hnx hsp
      simp only at hnx hsp
      have dn : decide (((0 + j : Nat) : Int) < 0) = false := decide_eq_false (by omega)
      have x2 : (d.fields.map Fld.enc)[0 + j]? = some d.fields[j].enc := by rw [Nat.zero_add]; exact map_get' (f := Fld.enc) hj1
      have hfz := sumSize_mem (size := Fld.size) (List.getElem_mem hj1)
      have hfl : d.fields[j].t.name.length ≤ d.fields[j].size := by unfold Fld.size Typ.size; omega
      have hsub := dSub s d.fields[j].t x.fields[k].t hs (by omega) (by omega)
      have htk := wTakes d.fields[j] x.fields[k] (by omega) (by omega)
      cases c1 : subB s d.fields[j].t x.fields[k].t <;> rw [c1] at hsub hnx hsp
      · have ha : x.fields.all (has1 s d) = false := hsp rfl
        rw [ha]
        repeat' first | refine A.allocv (d := 10) rfl rfl rfl rfl rfl ?_ | refine HCode.turn 10 rfl (Turn.freezeP rfl rfl rfl rfl) ?_ | refine .s1 ?_ | (refine .cond rfl ?_ ?_ <;> intro hc) | (refine A.guard rfl ?_ ?_ <;> intro hc) | refine A.vstore (agg := true) rfl rfl rfl rfl rfl rfl rfl rfl rfl rfl rfl ?_ | fail
        exact Fin.ret1 rfl (Weak.refl _)
      · cases c2 : takesB d.fields[j] x.fields[k] <;> rw [c2] at htk hnx hsp
        · have ha : x.fields.all (has1 s d) = false := hsp rfl
          rw [ha]
          repeat' first | refine A.allocv (d := 10) rfl rfl rfl rfl rfl ?_ | refine HCode.turn 10 rfl (Turn.freezeP rfl rfl rfl rfl) ?_ | refine .s1 ?_ | (refine .cond rfl ?_ ?_ <;> intro hc) | (refine A.guard rfl ?_ ?_ <;> intro hc) | refine A.vstore (agg := true) rfl rfl rfl rfl rfl rfl rfl rfl rfl rfl rfl ?_ | fail
          exact Fin.ret1 rfl (Weak.refl _)
        · have hj' := hnx rfl
          repeat' first | refine A.allocv (d := 10) rfl rfl rfl rfl rfl ?_ | refine HCode.turn 10 rfl (Turn.freezeP rfl rfl rfl rfl) ?_ | refine .s1 ?_ | (refine .cond rfl ?_ ?_ <;> intro hc) | (refine A.guard rfl ?_ ?_ <;> intro hc) | refine A.vstore (agg := true) rfl rfl rfl rfl rfl rfl rfl rfl rfl rfl rfl ?_ | fail
          exact ⟨h1, ⟨rfl, rfl, rfl, rfl, rfl, trivial⟩, by simp [belowS, AV.low], by simp [belowB, belowT, Ob.low, Tok.low, AV.lowL, AV.low], rfl, hj'⟩
  · have d1 : decide ((k : Int) < (x.fields.length : Int)) = false := by simp; omega
    obtain rfl : k = x.fields.length := by omega
    rw [List.take_length] at hj
    rw [hj]
    refine .go ?_
    exact Fin.ret1 rfl (Weak.refl _)
theorem wKept2 (s : Sch) (d : Dfn) (n : Str) (hs : s.size ≤ 1048640) (hd : d.size ≤ 1048640) : PFn Tryz.prog 112 [.str n, .rptr s.enc, .rptr d.enc] (.bool (!hasB s d n)) := by
  have h := wHas s d n hs hd
  refine AFn.plain rfl (by simp [AV.closed, AV.closedL, Dfn.closed, Sch.closed]) (AFn.enter [4] Tryz.func112 rfl rfl rfl rfl rfl (by decide) ?_)
  refine .gob ?_
  exact Fin.ret1 rfl (Weak.refl _)
theorem wKept1 (s : Sch) (d : Dfn) (hs : s.size ≤ 1048640) (hd : d ∈ s.defs) : PFn Tryz.prog 111 [d.enc, .rptr s.enc] (.bool (kept1 s d)) := by
  have hds := Sch.dfn hd
  have hl := d.lens
  have h := sContainsFStr d.faces 112 [.rptr s.enc, .rptr d.enc] (fun n => !hasB s d n) (by omega) (by simp [AV.closed, AV.closedL, Dfn.closed, Sch.closed]) (fun n _ => wKept2 s d n hs (by omega))
  refine AFn.plain rfl (by simp [AV.closed, AV.closedL, Dfn.closed, Sch.closed]) (AFn.enter [3] Tryz.func111 rfl rfl rfl rfl rfl (by decide) ?_)
  unfold kept1
  refine .gob ?_
  exact Fin.ret1 rfl (Weak.refl _)
theorem wParts2 (s : Sch) (n : Str) (hs : s.size ≤ 1048640) : PFn Tryz.prog 115 [.str n, .rptr s.enc] (.bool (!kindB s n [1])) := by
  have h := dKind s n [1] (by omega) (by decide)
  refine AFn.plain rfl (by simp [AV.closed, AV.closedL, Sch.closed]) (AFn.enter [3] Tryz.func115 rfl rfl rfl rfl rfl (by decide) ?_)
  refine .gob ?_
  exact Fin.ret1 rfl (Weak.refl _)
theorem wParts1 (s : Sch) (d : Dfn) (hs : s.size ≤ 1048640) (hd : d ∈ s.defs) : PFn Tryz.prog 114 [d.enc, .rptr s.enc] (.bool (parts1 s d)) := by
  have hds := Sch.dfn hd
  have hl := d.lens
  have h := sContainsFStr d.parts 115 [.rptr s.enc] (fun n => !kindB s n [1]) (by omega) (by simp [AV.closed, AV.closedL, Sch.closed]) (fun n _ => wParts2 s n hs)
  refine AFn.plain rfl (by simp [AV.closed, AV.closedL, Dfn.closed, Sch.closed]) (AFn.enter [3] Tryz.func114 rfl rfl rfl rfl rfl (by decide) ?_)
  unfold parts1
  cases c : (d.kind != 3)
  all_goals
    refine .gob ?_
    exact Fin.ret1 rfl (Weak.refl _)
theorem wR_kept (s : Sch) (hs : s.size ≤ 1048640) : PFn Tryz.prog 45 [s.enc] (.bool (keptB s)) := by
  have h := wEvery s 111 [.rptr s.enc] (kept1 s) (by omega) (by simp [AV.closed, AV.closedL, Sch.closed]) (fun d hd => wKept1 s d hs hd)
  refine AFn.plain rfl (by simp [AV.closedL, Sch.closed]) (AFn.enter [2] Tryz.func45 rfl rfl rfl rfl rfl (by decide) ?_)
  unfold keptB
  refine .gob ?_
  exact Fin.ret1 rfl (Weak.refl _)
theorem wR_parts (s : Sch) (hs : s.size ≤ 1048640) : PFn Tryz.prog 46 [s.enc] (.bool (partsB s)) := by
  have h := wEvery s 114 [.rptr s.enc] (parts1 s) (by omega) (by simp [AV.closed, AV.closedL, Sch.closed]) (fun d hd => wParts1 s d hs hd)
  refine AFn.plain rfl (by simp [AV.closedL, Sch.closed]) (AFn.enter [2] Tryz.func46 rfl rfl rfl rfl rfl (by decide) ?_)
  unfold partsB
  refine .gob ?_
  exact Fin.ret1 rfl (Weak.refl _)
end Go.Proofs.YtgghkkeejagfkaaGreatDoor
namespace Go.Proofs.YtgghkkeejagfkaaGreatDoor
open Go Go.Av
theorem every_iff {s : Sch} {f : Dfn → Bool} : everyB s f = true ↔ ∀ d ∈ s.defs, f d = true := by
  unfold everyB
  simp only [Bool.not_eq_true', List.any_eq_false, Bool.not_eq_true, Bool.not_eq_false', Bool.not_eq_false]
inductive Reach (next : Str → List Str) (l0 : List Str) : Str → Prop where
  | base {x : Str} : x ∈ l0 → Reach next l0 x
  | step {x y : Str} : Reach next l0 x → y ∈ next x → Reach next l0 y
def cntU (U l : List Str) : Nat := U.countP fun u => !decide (u ∈ l)
theorem mem_addNew {l : List Str} {x y : Str} : y ∈ addNew l x ↔ y ∈ l ∨ y = x := by
  unfold addNew
  split
  · constructor
    · exact .inl
    · rintro (h | rfl) <;> assumption
  · simp
theorem mem_addAll {xs l : List Str} {y : Str} : y ∈ xs.foldl addNew l ↔ y ∈ l ∨ y ∈ xs := by
  induction xs generalizing l with
  | nil => simp
  | cons x xs ih => rw [List.foldl_cons, ih, mem_addNew]; simp [or_assoc]
theorem addNew_pre (l : List Str) (x : Str) : ∃ r, addNew l x = l ++ r := by
  unfold addNew
  split
  · exact ⟨[], by simp⟩
  · exact ⟨[x], rfl⟩
theorem addAll_pre (xs l : List Str) : ∃ r, xs.foldl addNew l = l ++ r := by
  induction xs generalizing l with
  | nil => exact ⟨[], by simp⟩
  | cons x xs ih =>
    obtain ⟨r1, h1⟩ := addNew_pre l x
    obtain ⟨r2, h2⟩ := ih (addNew l x)
    exact ⟨r1 ++ r2, by rw [List.foldl_cons, h2, h1, List.append_assoc]⟩
theorem cnt_new {U l : List Str} {x : Str} (hx : x ∈ U) (hn : x ∉ l) : cntU U (l ++ [x]) + 1 ≤ cntU U l := by
  unfold cntU
  induction U with
  | nil => simp at hx
  | cons u U ih =>
    have mono : ∀ V : List Str, V.countP (fun u => !decide (u ∈ l ++ [x])) ≤ V.countP (fun u => !decide (u ∈ l)) := fun V => by
      apply List.countP_mono_left
      intro v _ h
      simp at h ⊢
      exact h.1
    rw [List.countP_cons, List.countP_cons]
    by_cases e : u = x
    · subst e
      have := mono U
      simp [hn]; simpa using this
    · have hU : x ∈ U := by
        rcases List.mem_cons.1 hx with h | h
        · exact absurd h.symm e
        · exact h
      have := ih hU
      have e2 : (!decide (u ∈ l ++ [x])) = (!decide (u ∈ l)) := by simp [e]
      rw [e2]; omega
theorem cnt_addNew {U l : List Str} {x : Str} (hx : x ∈ U) : cntU U (addNew l x) + (addNew l x).length ≤ cntU U l + l.length := by
  unfold addNew
  split
  · exact Nat.le_refl _
  · rename_i h
    have := cnt_new hx h
    rw [List.length_append, List.length_singleton]; omega
theorem cnt_addAll {U xs l : List Str} (h : ∀ x ∈ xs, x ∈ U) : cntU U (xs.foldl addNew l) + (xs.foldl addNew l).length ≤ cntU U l + l.length := by
  induction xs generalizing l with
  | nil => exact Nat.le_refl _
  | cons x xs ih =>
    rw [List.foldl_cons]
    exact Nat.le_trans (ih fun y hy => h y (List.mem_cons_of_mem _ hy)) (cnt_addNew (h x (List.mem_cons_self ..)))
theorem cnt_le (U l : List Str) : cntU U l ≤ U.length := List.countP_le_length ..
theorem closeF_sub (next : Str → List Str) : ∀ (n i : Nat) (l : List Str), ∃ r, closeF next n i l = l ++ r
  | 0, _, l => ⟨[], by rw [closeF]; simp⟩
  | n + 1, i, l => by
    rw [closeF]
    split
    · exact ⟨[], by simp⟩
    · rename_i x _
      obtain ⟨r1, h1⟩ := addAll_pre (next x) l
      obtain ⟨r2, h2⟩ := closeF_sub next n (i + 1) ((next x).foldl addNew l)
      exact ⟨r1 ++ r2, by rw [h2, h1, List.append_assoc]⟩
theorem closeF_reach (next : Str → List Str) (l0 : List Str) : ∀ (n i : Nat) (l : List Str), (∀ x ∈ l, Reach next l0 x) → ∀ x ∈ closeF next n i l, Reach next l0 x
  | 0, _, l, h, x, hx => h x (by rwa [closeF] at hx)
  | n + 1, i, l, h, x, hx => by
    rw [closeF] at hx
    split at hx
    · exact h x hx
    · rename_i y hy
      refine closeF_reach next l0 n (i + 1) _ (fun z hz => ?_) x hx
      rcases mem_addAll.1 hz with h1 | h1
      · exact h z h1
      · exact .step (h y (List.mem_of_getElem? hy)) h1
theorem closeF_closed (next : Str → List Str) (U : List Str) (hU : ∀ x, ∀ y ∈ next x, y ∈ U) : ∀ (n i : Nat) (l : List Str), (∀ (j : Nat) (x : Str), j < i → l[j]? = some x → ∀ y ∈ next x, y ∈ l) → cntU U l + l.length ≤ n + i →
    ∀ x ∈ closeF next n i l, ∀ y ∈ next x, y ∈ closeF next n i l
  | 0, i, l, h, hb, x, hx, y, hy => by
    rw [closeF] at hx ⊢
    obtain ⟨j, hj, rfl⟩ := List.getElem_of_mem hx
    exact h j _ (by omega) (List.getElem?_eq_getElem hj) y hy
  | n + 1, i, l, h, hb, x, hx, y, hy => by
    rw [closeF] at hx ⊢
    split at hx
    · rename_i e
      obtain ⟨j, hj, rfl⟩ := List.getElem_of_mem hx
      have := List.getElem?_eq_none_iff.1 e
      exact h j _ (by omega) (List.getElem?_eq_getElem hj) y hy
    · rename_i z hz
      obtain ⟨r, hr⟩ := addAll_pre (next z) l
      refine closeF_closed next U hU n (i + 1) _ (fun j w hj hw v hv => ?_) (by have := cnt_addAll (l := l) (hU z); omega) x hx y hy
      by_cases e : j = i
      · subst e
        have : (l ++ r)[j]? = some z := by rw [List.getElem?_append_left (List.getElem?_eq_some_iff.1 hz).1, hz]
        rw [hr, this] at hw
        cases hw
        exact mem_addAll.2 (.inr hv)
      · have hl : j < l.length := by have := (List.getElem?_eq_some_iff.1 hz).1; omega
        rw [hr, List.getElem?_append_left hl] at hw
        exact mem_addAll.2 (.inl (h j w (by omega) hw v hv))
theorem closeF_iff {next : Str → List Str} {U l0 : List Str} {N : Nat} (hU : ∀ x, ∀ y ∈ next x, y ∈ U) (hN : cntU U l0 + l0.length ≤ N) (y : Str) : y ∈ closeF next N 0 l0 ↔ Reach next l0 y := by
  constructor
  · exact closeF_reach next l0 N 0 l0 (fun x hx => .base hx) y
  · intro h
    induction h with
    | base h =>
      obtain ⟨r, hr⟩ := closeF_sub next N 0 l0
      rw [hr]; exact List.mem_append_left _ h
    | step _ hy ih => exact closeF_closed next U hU N 0 l0 (fun j x hj => absurd hj (Nat.not_lt_zero _)) (by omega) _ ih _ hy
theorem Reach.mono {n1 n2 : Str → List Str} {l1 l2 : List Str} (hl : ∀ x ∈ l1, x ∈ l2) (hn : ∀ x, ∀ y ∈ n1 x, y ∈ n2 x) {x : Str} (h : Reach n1 l1 x) : Reach n2 l2 x := by
  induction h with
  | base h => exact .base (hl _ h)
  | step _ hy ih => exact .step ih (hn _ _ hy)
theorem needFold {s : Sch} {ps : List Par} {l : List Str} {y : Str} : y ∈ ps.foldl (needAdd s) l ↔ y ∈ l ∨ ∃ p ∈ ps, needP s p = true ∧ p.t.name = y := by
  induction ps generalizing l with
  | nil => simp
  | cons p ps ih =>
    rw [List.foldl_cons, ih]
    unfold needAdd
    split
    · rename_i h
      rw [mem_addNew]
      constructor
      · rintro ((h1 | h1) | ⟨q, hq, h2⟩)
        · exact .inl h1
        · exact .inr ⟨p, List.mem_cons_self .., h, h1.symm⟩
        · exact .inr ⟨q, List.mem_cons_of_mem _ hq, h2⟩
      · rintro (h1 | ⟨q, hq, h2, h3⟩)
        · exact .inl (.inl h1)
        · rcases List.mem_cons.1 hq with rfl | hq
          · exact .inl (.inr h3.symm)
          · exact .inr ⟨q, hq, h2, h3⟩
    · rename_i h
      constructor
      · rintro (h1 | ⟨q, hq, h2⟩)
        · exact .inl h1
        · exact .inr ⟨q, List.mem_cons_of_mem _ hq, h2⟩
      · rintro (h1 | ⟨q, hq, h2, h3⟩)
        · exact .inl h1
        · rcases List.mem_cons.1 hq with rfl | hq
          · exact absurd h2 h
          · exact .inr ⟨q, hq, h2, h3⟩
theorem mem_needsP {s : Sch} {name y : Str} : y ∈ needsP s name ↔ ∃ p ∈ (findR s name).1.params, needP s p = true ∧ p.t.name = y := by
  unfold needsP; rw [needFold]; simp
theorem findR_params {s : Sch} {name : Str} {p : Par} (h : p ∈ (findR s name).1.params) : (findR s name).1 ∈ s.defs := by
  rcases findR_in s name with h1 | h1 | h1
  · exact h1
  · rw [h1] at h; simp at h
  · rw [h1] at h; simp [zeroD] at h
theorem params_all {s : Sch} {name : Str} {p : Par} (h : p ∈ (findR s name).1.params) : p.t.name ∈ allTs s :=
  List.mem_flatMap.2 ⟨_, findR_params h, List.mem_map.2 ⟨p, h, rfl⟩⟩
theorem needsP_all {s : Sch} (x : Str) : ∀ y ∈ needsP s x, y ∈ allTs s := fun y hy => by
  obtain ⟨p, hp, _, rfl⟩ := mem_needsP.1 hy
  exact params_all hp
theorem needFold_cnt {s : Sch} {U : List Str} {ps : List Par} {l : List Str} (h : ∀ p ∈ ps, p.t.name ∈ U) : cntU U (ps.foldl (needAdd s) l) + (ps.foldl (needAdd s) l).length ≤ cntU U l + l.length := by
  induction ps generalizing l with
  | nil => exact Nat.le_refl _
  | cons p ps ih =>
    rw [List.foldl_cons]
    refine Nat.le_trans (ih fun q hq => h q (List.mem_cons_of_mem _ hq)) ?_
    unfold needAdd
    split
    · exact cnt_addNew (h p (List.mem_cons_self ..))
    · exact Nat.le_refl _
theorem needsP_cnt (s : Sch) (name : Str) : cntU (allTs s) (needsP s name) + (needsP s name).length ≤ (allTs s).length := by
  refine Nat.le_trans (needFold_cnt fun p hp => params_all hp) ?_
  have := cnt_le (allTs s) []
  simpa using this
theorem rings_iff {s : Sch} {name : Str} : ringsB s name = true ↔ Reach (needsP s) (needsP s name) name := by
  unfold ringsB
  rw [decide_eq_true_eq, closeF_iff needsP_all (needsP_cnt s name)]
def needRP (s : Sch) (p : Par) : Bool := decide (p.t.lists = 0) && (decide (p.t.musts = 1) && kindB s p.t.name [5])
def needsR (s : Sch) (name : Str) : List Str := if (findR s name).1.kind = 5 then ((findR s name).1.params.filter (needRP s)).map fun p => p.t.name else []
def ringR (s : Sch) (name : Str) : Bool := decide (name ∈ closeF (needsR s) ((needsR s name).length + (allTs s).length) 0 (needsR s name))
def openR (s : Sch) : Bool := !s.defs.any fun d => ringR s d.name
theorem needsR_all {s : Sch} (x : Str) : ∀ y ∈ needsR s x, y ∈ allTs s := fun y hy => by
  unfold needsR at hy
  split at hy
  · obtain ⟨p, hp, rfl⟩ := List.mem_map.1 hy
    exact params_all (List.mem_filter.1 hp).1
  · simp at hy
theorem ringR_iff {s : Sch} {name : Str} : ringR s name = true ↔ Reach (needsR s) (needsR s name) name := by
  unfold ringR
  rw [decide_eq_true_eq, closeF_iff needsR_all (by have := cnt_le (allTs s) (needsR s name); omega)]
theorem named_iff {s : Sch} : namedB s = true ↔ sdlOk s = true ∧ (dNames s).Nodup ∧ (∀ n ∈ dNames s, own2 n = false) ∧ ∀ n ∈ dNames s, kindB s n [0] = false := by
  unfold namedB onceB foreignB
  simp only [Bool.and_eq_true, decide_eq_true_eq, Bool.not_eq_true', List.any_eq_false, Bool.not_eq_true]
theorem sdl_dfn {s : Sch} (h : sdlOk s = true) {d : Dfn} (hd : d ∈ s.defs) : dfnOk d = true := by
  unfold sdlOk at h
  simp only [Bool.and_eq_true, List.all_eq_true] at h
  exact h.2.2 d hd
theorem nodup_find {l : List Dfn} {d : Dfn} (hn : (l.map Dfn.name).Nodup) (hd : d ∈ l) : l.find? (fun x => x.name == d.name) = some d := by
  induction l with
  | nil => simp at hd
  | cons x l ih =>
    rw [List.map_cons, List.nodup_cons] at hn
    rw [List.find?_cons]
    rcases List.mem_cons.1 hd with rfl | hd
    · simp
    · have : (x.name == d.name) = false := by
        rw [beq_eq_false_iff_ne]
        intro e
        exact hn.1 (List.mem_map.2 ⟨d, hd, e.symm⟩)
      rw [this]
      exact ih hn.2 hd
theorem named_find {s : Sch} (h : namedB s = true) {d : Dfn} (hd : d ∈ s.defs) : findO s d.name = some d := by
  obtain ⟨h1, h2, h3, h4⟩ := named_iff.1 h
  have hm : d.name ∈ dNames s := List.mem_map.2 ⟨d, hd, rfl⟩
  have hk := h4 _ hm
  unfold findO
  split
  · rename_i hs
    unfold kindB findR findO at hk
    rw [if_pos hs] at hk
    simp at hk
  · exact nodup_find h2 hd
theorem named_findR {s : Sch} (h : namedB s = true) {d : Dfn} (hd : d ∈ s.defs) : findR s d.name = (d, true) := by rw [findR, named_find h hd]
theorem dfnOk_params {d : Dfn} (h : dfnOk d = true) : (d.params = [] ∨ d.kind = 5) ∧ d.params.all parOk = true := by
  unfold dfnOk at h
  split at h
  · simp only [Bool.and_eq_true, decide_eq_true_eq] at h
    rw [h.1.2.2]; simp
  · split at h
    · simp only [Bool.and_eq_true, decide_eq_true_eq] at h
      rw [h.1.2.2.2]; simp
    · split at h
      · simp only [Bool.and_eq_true, decide_eq_true_eq] at h
        rw [h.1.2.2.2]; simp
      · split at h
        · rename_i k5
          simp only [Bool.and_eq_true] at h
          exact ⟨.inr k5, h.2.2⟩
        · cases h
theorem dfnOk_faces {d : Dfn} (h : dfnOk d = true) (hf : d.faces ≠ []) : d.kind = 1 ∨ d.kind = 2 := by
  unfold dfnOk at h
  split at h
  · assumption
  · split at h
    · simp only [Bool.and_eq_true, decide_eq_true_eq] at h
      exact absurd h.1.2.1 hf
    · split at h
      · simp only [Bool.and_eq_true, decide_eq_true_eq] at h
        exact absurd h.1.2.1 hf
      · split at h
        · simp only [Bool.and_eq_true, decide_eq_true_eq] at h
          exact absurd h.1.2.1 hf
        · cases h
theorem needs_same {s : Sch} (h : namedB s = true) (x y : Str) : y ∈ needsP s x ↔ y ∈ needsR s x := by
  rw [mem_needsP]
  have h1 := (named_iff.1 h).1
  have key : ∀ p ∈ (findR s x).1.params, needP s p = needRP s p ∧ (findR s x).1.kind = 5 := fun p hp => by
    obtain ⟨h2, h3⟩ := dfnOk_params (sdl_dfn h1 (findR_params hp))
    have h4 := List.all_eq_true.1 h3 p hp
    refine ⟨?_, h2.resolve_left fun e => by rw [e] at hp; simp at hp⟩
    unfold parOk at h4
    simp only [Bool.and_eq_true] at h4
    have hr := h4.2.1
    unfold needP needRP isT
    rw [hr, Bool.true_and]
    by_cases hl : p.t.lists = 0
    · have hm := (rightT_iff.1 hr).2.2.2
      rw [hl] at hm
      have : decide (p.t.musts % 2 = 1) = decide (p.t.musts = 1) := by
        rw [Bool.eq_iff_iff, decide_eq_true_eq, decide_eq_true_eq]
        have h0 := hm.1
        have h2 : p.t.musts < 2 := hm.2
        omega
      rw [this]
    · simp [hl]
  constructor
  · rintro ⟨p, hp, h2, h3⟩
    obtain ⟨e, k⟩ := key p hp
    unfold needsR
    rw [if_pos k]
    exact List.mem_map.2 ⟨p, List.mem_filter.2 ⟨hp, e ▸ h2⟩, h3⟩
  · intro hy
    unfold needsR at hy
    split at hy
    · obtain ⟨p, hp, rfl⟩ := List.mem_map.1 hy
      obtain ⟨hp1, hp2⟩ := List.mem_filter.1 hp
      exact ⟨p, hp1, (key p hp1).1 ▸ hp2, rfl⟩
    · simp at hy
theorem openR_eq {s : Sch} (h : namedB s = true) : openR s = openB s := by
  unfold openR openB everyB
  congr 1
  rw [Bool.eq_iff_iff, List.any_eq_true, List.any_eq_true]
  have key : ∀ d ∈ s.defs, (ringR s d.name = true ↔ (!open1 s d) = true) := fun d hd => by
    unfold open1
    have e1 : ringR s d.name = true ↔ ringsB s d.name = true := by
      rw [ringR_iff, rings_iff]
      exact ⟨Reach.mono (fun x hx => (needs_same h _ x).2 hx) (fun x y hy => (needs_same h x y).2 hy), Reach.mono (fun x hx => (needs_same h _ x).1 hx) (fun x y hy => (needs_same h x y).1 hy)⟩
    rw [e1]
    by_cases k : d.kind = 5
    · simp [k]
    · have : ringsB s d.name = false := by
        rw [Bool.eq_false_iff]
        intro hr
        rw [← e1, ringR_iff] at hr
        have e0 : needsR s d.name = [] := by unfold needsR; rw [named_findR h hd, if_neg k]
        have aux : ∀ x, Reach (needsR s) [] x → False := fun x hx => by
          induction hx with
          | base h => simp at h
          | step _ _ ih => exact ih
        rw [e0] at hr
        exact aux _ hr
      simp [k, this]
  exact ⟨fun ⟨d, hd, h1⟩ => ⟨d, hd, (key d hd).1 h1⟩, fun ⟨d, hd, h1⟩ => ⟨d, hd, (key d hd).2 h1⟩⟩
def sTypename : Str := [95, 95, 116, 121, 112, 101, 110, 97, 109, 101]
def fieldO (s : Sch) (typ name : Str) : Option Fld :=
  if name = sTypename ∧ compB s typ = true then some ⟨name, [], ⟨sString, 0, 1⟩, []⟩ else if (findR s typ).1.kind = 1 ∨ (findR s typ).1.kind = 2 then fldO (findR s typ).1.fields name else none
def hasR (s : Sch) (d : Dfn) (face : Str) : Bool := (findR s face).1.fields.all fun g => match fieldO s d.name g.name with | none => false | some f => subB s f.t g.t && takesB f g
def keptR (s : Sch) : Bool := s.defs.all fun d => d.faces.all (hasR s d)
theorem single_fields {s : Sch} (h : soleB s = true) {d : Dfn} (hd : d ∈ s.defs) : goodNames (d.fields.map Fld.name) = true ∧ goodNames (d.params.map Par.name) = true ∧ onceB d.parts = true ∧ onceB d.faces = true ∧ ∀ f ∈ d.fields, goodNames (f.params.map Par.name) = true := by
  have h0 : sole1 d = true := every_iff.1 h d hd
  unfold sole1 at h0
  simp only [Bool.and_eq_true, Bool.not_eq_true', List.any_eq_false, Bool.not_eq_true, Bool.not_eq_false', Bool.not_eq_false] at h0
  obtain ⟨h1, h2, h3, h4, h5⟩ := h0
  exact ⟨h1, h2, h3, h4, h5⟩
theorem good_own {l : List Str} (h : goodNames l = true) : l.Nodup ∧ ∀ x ∈ l, own2 x = false := by
  unfold goodNames onceB foreignB at h
  simp only [Bool.and_eq_true, decide_eq_true_eq, Bool.not_eq_true', List.any_eq_false, Bool.not_eq_true] at h
  exact h
theorem keptR_eq {s : Sch} (h : namedB s = true) (h3 : soleB s = true) : keptR s = keptB s := by
  unfold keptR keptB everyB kept1
  rw [Bool.eq_iff_iff, List.all_eq_true]
  simp only [Bool.not_eq_true', List.any_eq_false, Bool.not_eq_true, Bool.not_eq_false', Bool.not_eq_false, List.all_eq_true, List.any_eq_true, not_exists, not_and]
  have key : ∀ d ∈ s.defs, ∀ n ∈ d.faces, hasR s d n = hasB s d n := fun d hd n hn => by
    unfold hasR hasB
    have hk := dfnOk_faces (sdl_dfn (named_iff.1 h).1 hd) (List.ne_nil_of_mem hn)
    rw [Bool.eq_iff_iff, List.all_eq_true, List.all_eq_true]
    have inner : ∀ g ∈ (findR s n).1.fields, fieldO s d.name g.name = fldO d.fields g.name := fun g hg => by
      have hx : (findR s n).1 ∈ s.defs := by
        rcases findR_in s n with h1 | h1 | h1
        · exact h1
        · rw [h1] at hg; simp at hg
        · rw [h1] at hg; simp [zeroD] at hg
      have ho := (good_own (single_fields h3 hx).1).2 g.name (List.mem_map.2 ⟨g, hg, rfl⟩)
      unfold fieldO
      rw [if_neg (by rintro ⟨e, _⟩; rw [e] at ho; exact absurd ho (by decide)), named_findR h hd, if_pos hk]
    exact ⟨fun h1 g hg => by rw [← inner g hg]; exact h1 g hg, fun h1 g hg => by rw [inner g hg]; exact h1 g hg⟩
  constructor
  · intro h1 d hd n hn
    rw [← key d hd n hn, h1 d hd n hn]
  · intro h1 d hd n hn
    rw [key d hd n hn]; simpa using h1 d hd n hn
def ruleR (s : Sch) (n : Int) : Bool := if n = 6 then keptR s else if n = 8 then openR s else ruleB s n
def checkRF (s : Sch) : Nat → Int → Int
  | 0, _ => 0
  | k + 1, n => if ruleR s n = true then checkRF s k (n + 1) else n
theorem checkR_eq (s : Sch) : checkRF s 9 1 = checkI s := by
  have e1 : ruleR s 1 = namedB s := rfl
  have f1 : ruleB s 1 = namedB s := rfl
  have e2 : ruleR s 2 = rootsB s := rfl
  have f2 : ruleB s 2 = rootsB s := rfl
  have e3 : ruleR s 3 = soleB s := rfl
  have f3 : ruleB s 3 = soleB s := rfl
  have e4 : ruleR s 4 = ruleB s 4 := rfl
  have e5 : ruleR s 5 = ruleB s 5 := rfl
  have e6 : ruleR s 6 = keptR s := rfl
  have f6 : ruleB s 6 = keptB s := rfl
  have e7 : ruleR s 7 = ruleB s 7 := rfl
  have e8 : ruleR s 8 = openR s := rfl
  have f8 : ruleB s 8 = openB s := rfl
  have e9 : ruleR s 9 = ruleB s 9 := rfl
  unfold checkI
  simp only [checkRF, checkF, Int.reduceAdd, e1, f1, e2, f2, e3, f3, e4, e5, e6, f6, e7, e8, f8, e9]
  by_cases h1 : namedB s = true
  · by_cases h3 : soleB s = true
    · rw [keptR_eq h1 h3, openR_eq h1]
    · simp only [if_neg h3]
  · simp only [if_neg h1]
end Go.Proofs.YtgghkkeejagfkaaGreatDoor
