/-
  The laws of layer 11: SchemaDefaults.
  In a sound schema: what each face of a definition is, and which fields the definition has for it.
  The package defs: Field.
  The package defs: Meets. The law SchemaFaces.
-/
import Derived.Test.YtegakkonlhmeaaaGreatDoorGSA16
import Derived.Test.YtegakkonlhmeaaaGreatDoorGSA13
import Derived.Test.YtegakkonlhmeaaaGreatDoorGSA12
set_option linter.unusedVariables false
set_option linter.unusedSimpArgs false
namespace Go.Proofs.YtegakkonlhmeaaaGreatDoor
open Go Go.Av
set_option maxRecDepth 100000
set_option maxHeartbeats 4000000
attribute [local irreducible] HCode AOps PFn AFn Av.Step TStep

def dPars (d : Dfn) : List Par := d.params ++ d.fields.flatMap Fld.params
theorem sum_flat : ∀ l : List Fld, sumSize Par.size (l.flatMap Fld.params) ≤ sumSize Fld.size l
  | [] => by simp [sumSize]
  | f :: l => by
    have := sum_flat l
    have h : sumSize Par.size f.params ≤ f.size := by unfold Fld.size; omega
    rw [List.flatMap_cons, sum_app, sumSize]; omega
theorem dPars_size (d : Dfn) : sumSize Par.size (dPars d) ≤ d.size := by
  have := sum_flat d.fields
  unfold dPars Dfn.size
  rw [sum_app]; omega
theorem flat_take {l : List Fld} {k : Nat} (h : k < l.length) : (l.take (k + 1)).flatMap Fld.params = (l.take k).flatMap Fld.params ++ l[k].params := by
  rw [List.take_succ_eq_append_getElem h, List.flatMap_append]; simp
theorem flat_take_len (l : List Fld) (k : Nat) : ((l.take k).flatMap Fld.params).length ≤ (l.flatMap Fld.params).length := by
  conv => rhs; rw [← List.take_append_drop k l]
  rw [List.flatMap_append, List.length_append]; omega
theorem sound_par {s : Sch} (h : checkI s = 0) {d : Dfn} (hd : d ∈ s.defs) {p : Par} (hp : p ∈ dPars d) : entryB s p.t.name = true ∧ (p.has = true → litR s p.t p.d = true) := by
  obtain ⟨_, _, _, h4, _, _, _, _, h9⟩ := check_zero.1 h
  have t := every_iff.1 h4 d hd
  have u := every_iff.1 h9 d hd
  unfold typed1 entriesB at t
  unfold dflts1 rightB at u
  simp only [Bool.and_eq_true, Bool.not_eq_true', List.any_eq_false, Bool.or_eq_true, Bool.not_eq_true, not_or, Bool.not_eq_false', not_and] at t u
  rcases List.mem_append.1 hp with hq | hq
  · refine ⟨?_, fun hh => ?_⟩
    · have := t.1 p hq; simpa using this
    · have := u.1 p hq; simpa [hh] using this
  · obtain ⟨f, hf, hpf⟩ := List.mem_flatMap.1 hq
    refine ⟨?_, fun hh => ?_⟩
    · have := t.2 f hf; simp at this; simpa using this.2 p hpf
    · have := u.2.2 f hf; simp at this; simpa [hh] using this p hpf
theorem schemaDefaults (s : Sch) (hs : s.size ≤ 1048576) (ho : s.ok) : PFn Tryz.prog 5 [s.enc] (.bool true) := by
  have hL := light8 s (by omega)
  have hw := awake11
  have hc := wCheckS s (by omega) ho
  have hss : s.size = sumSize Dfn.size s.defs + s.query.length + s.mutation.length + 4 := rfl
  have hlen := sumSize_length (size := Dfn.size) (fun d => by unfold Dfn.size; omega) s.defs
  have hll : (s.defs.map Dfn.enc).length = s.defs.length := List.length_map ..
  refine AFn.plain rfl (by simp [AV.closedL, AV.closed, Sch.closed]) (AFn.enter [2] Tryz.func5 rfl rfl rfl rfl rfl (by decide) ?_)
  cases c1 : lightS s <;> rw [c1] at hL
  · repeat' first
      | refine .br ?_
      | refine .seq ?_ | refine .rg ?_ | refine .rd ?_ | refine .block ?_ | refine .scope ?_ | refine .skip ?_ | refine .label ?_ | refine .exit ?_ | refine .ret ?_
      | refine .ct ?_ | refine .cf ?_ | refine .cy ?_ | refine .cn ?_ | (refine .cond rfl ?_ ?_ <;> intro hc)
      | refine A.nil_seq ?_ | refine .nl ?_ | refine .dd ?_ | refine .ys ?_ | refine .no ?_ | (refine A.guard rfl ?_ ?_ <;> intro hc)
      | refine .lb ?_ | refine .ln ?_ | refine .ls ?_ | refine .pv ?_ | refine .ix ?_ | refine .pt ?_ | refine .pf ?_ | refine .bx ?_ | refine .al ?_ | refine .st ?_ | refine .ad ?_ | refine .sb ?_ | refine .mf ?_ | refine .cl ?_ | refine .cw ?_ | refine .ck ?_ | fail
    exact Fin.ret1 rfl (Weak.refl _)
  by_cases c5 : checkI s = 0
  case neg =>
    have e5 : (checkI s != 0) = true := by simp [c5]
    repeat' first
      | refine .br ?_
      | refine .seq ?_ | refine .rg ?_ | refine .rd ?_ | refine .block ?_ | refine .scope ?_ | refine .skip ?_ | refine .label ?_ | refine .exit ?_ | refine .ret ?_
      | refine .ct ?_ | refine .cf ?_ | refine .cy ?_ | refine .cn ?_ | (refine .cond rfl ?_ ?_ <;> intro hc)
      | refine A.nil_seq ?_ | refine .nl ?_ | refine .dd ?_ | refine .ys ?_ | refine .no ?_ | (refine A.guard rfl ?_ ?_ <;> intro hc)
      | refine .lb ?_ | refine .ln ?_ | refine .ls ?_ | refine .pv ?_ | refine .ix ?_ | refine .pt ?_ | refine .pf ?_ | refine .bx ?_ | refine .al ?_ | refine .st ?_ | refine .ad ?_ | refine .sb ?_ | refine .mf ?_ | refine .cl ?_ | refine .cw ?_ | refine .ck ?_ | fail
    exact Fin.ret1 rfl (Weak.refl _)
  have e5 : (checkI s != 0) = false := by simp [c5]
  rw [c5] at hc
  repeat' first
    | refine .br ?_
    | refine .seq ?_ | refine .rg ?_ | refine .rd ?_ | refine .block ?_ | refine .scope ?_ | refine .skip ?_ | refine .label ?_ | refine .exit ?_ | refine .ret ?_
    | refine .ct ?_ | refine .cf ?_ | refine .cy ?_ | refine .cn ?_ | (refine .cond rfl ?_ ?_ <;> intro hc)
    | refine A.nil_seq ?_ | refine .nl ?_ | refine .dd ?_ | refine .ys ?_ | refine .no ?_ | (refine A.guard rfl ?_ ?_ <;> intro hc)
    | refine .lb ?_ | refine .ln ?_ | refine .ls ?_ | refine .pv ?_ | refine .ix ?_ | refine .pt ?_ | refine .pf ?_ | refine .bx ?_ | refine .al ?_ | refine .st ?_ | refine .ad ?_ | refine .sb ?_ | refine .mf ?_ | refine .cl ?_ | refine .cw ?_ | refine .ck ?_ | fail
  refine HCode.forK s.defs.length (fun k => [(3, .int .i64 k), (1, .rptr s.enc)]) (fun _ => ⟨[], []⟩) (fun _ => True) ⟨rfl, rfl, trivial⟩ rfl trivial fun k hk _ => ?_
  by_cases h1 : k < s.defs.length
  · have d1 : decide ((k : Int) < (s.defs.length : Int)) = true := by simp [h1]
    have x1 := map_get' (f := Dfn.enc) h1
    have hm := wsum_le Dfn.size s.defs k h1
    have hmem := List.getElem_mem h1
    generalize hd : s.defs[k] = d at *
    have hds := dPars_size d
    have hdl := sumSize_length Par.size_pos (dPars d)
    have hdf := sumSize_length (size := Fld.size) (fun f => by unfold Fld.size; omega) d.fields
    have hdz : d.size = d.name.length + strsSize d.faces + sumSize Fld.size d.fields + strsSize d.parts + sumSize Par.size d.params + 5 := rfl
    have hpl : (dPars d).length = d.params.length + (d.fields.flatMap Fld.params).length := by unfold dPars; rw [List.length_append]
    have hpm : (d.params.map Par.enc).length = d.params.length := List.length_map ..
    repeat' first
      | refine .seq ?_ | refine .rg ?_ | refine .rd ?_ | refine .block ?_ | refine .scope ?_ | refine .skip ?_ | refine .label ?_ | refine .exit ?_ | refine .ret ?_
      | refine .ct ?_ | refine .cf ?_ | refine .cy ?_ | refine .cn ?_ | (refine .cond rfl ?_ ?_ <;> intro hc)
      | refine A.nil_seq ?_ | refine .nl ?_ | refine .dd ?_ | refine .ys ?_ | refine .no ?_ | (refine A.guard rfl ?_ ?_ <;> intro hc)
      | refine .lb ?_ | refine .ln ?_ | refine .ls ?_ | refine .pv ?_ | refine .ix ?_ | refine .pt ?_ | refine .pf ?_ | refine .bx ?_ | refine .al ?_ | refine .st ?_ | refine .ad ?_ | refine .sb ?_ | refine .mf ?_ | refine .cl ?_ | refine .cw ?_ | refine .ck ?_
      | refine A.append_new (n := 0) rfl rfl rfl rfl rfl rfl rfl rfl rfl rfl (Par.fitsAll _) (by rw [hpm]; dsimp only; omega) (by rw [hpm]; omega) rfl ?_ | fail
    refine HCode.forK d.fields.length (fun j => [(5, .int .i64 j), (4, .slice ((d.params ++ (d.fields.take j).flatMap Fld.params).map Par.enc) (.own 0 10)), (3, .int .i64 k), (1, .rptr s.enc)]) (fun j => ⟨[], [.len (d.params ++ (d.fields.take j).flatMap Fld.params).length]⟩) (fun _ => True) ⟨rfl, by simp; rfl, rfl, rfl, trivial⟩ (by simp) trivial fun j hj _ => ?_
    have hft := flat_take_len d.fields j
    by_cases h2 : j < d.fields.length
    · have d2 : decide ((j : Int) < (d.fields.length : Int)) = true := by simp [h2]
      have x2 := map_get' (f := Fld.enc) h2
      have hfl := flat_take h2
      have hft2 := flat_take_len d.fields (j + 1)
      rw [hfl, List.length_append] at hft2
      have hqm : (d.fields[j].params.map Par.enc).length = d.fields[j].params.length := List.length_map ..
      repeat' first
        | refine .seq ?_ | refine .rg ?_ | refine .rd ?_ | refine .block ?_ | refine .scope ?_ | refine .skip ?_ | refine .label ?_ | refine .exit ?_ | refine .ret ?_
        | refine .ct ?_ | refine .cf ?_ | refine .cy ?_ | refine .cn ?_ | (refine .cond rfl ?_ ?_ <;> intro hc)
        | refine A.nil_seq ?_ | refine .nl ?_ | refine .dd ?_ | refine .ys ?_ | refine .no ?_ | (refine A.guard rfl ?_ ?_ <;> intro hc)
        | refine .lb ?_ | refine .ln ?_ | refine .ls ?_ | refine .pv ?_ | refine .ix ?_ | refine .pt ?_ | refine .pf ?_ | refine .bx ?_ | refine .al ?_ | refine .st ?_ | refine .ad ?_ | refine .sb ?_ | refine .mf ?_ | refine .cl ?_ | refine .cw ?_ | refine .ck ?_
        | refine A.append (n := (d.params ++ (d.fields.take j).flatMap Fld.params).length) rfl rfl rfl rfl rfl rfl rfl rfl (List.length_map ..) (Par.fitsAll _) (by rw [hqm, List.length_append]; dsimp only; omega) (by rw [hqm, List.length_append]; omega) rfl ?_ | fail
      exact ⟨h2, ⟨rfl, by rw [hfl]; simp; rfl, rfl, rfl, trivial⟩, by simp [belowS, AV.low, -List.map_append, AV.low_of_closed, Sch.closed], rfl, by rw [hfl, hqm]; simp; omega, trivial⟩
    · have d2 : decide ((j : Int) < (d.fields.length : Int)) = false := by simp; omega
      obtain rfl : j = d.fields.length := by omega
      rw [List.take_length]
      have hq : d.params ++ d.fields.flatMap Fld.params = dPars d := rfl
      rw [hq]
      have hpp : ∀ p ∈ dPars d, entryB s p.t.name = true ∧ (p.has = true → litR s p.t p.d = true) := fun p hp => sound_par c5 hmem hp
      generalize dPars d = ps at *
      repeat' first
        | refine .seq ?_ | refine .rg ?_ | refine .rd ?_ | refine .block ?_ | refine .scope ?_ | refine .skip ?_ | refine .label ?_ | refine .exit ?_ | refine .ret ?_
        | refine .ct ?_ | refine .cf ?_ | refine .cy ?_ | refine .cn ?_ | (refine .cond rfl ?_ ?_ <;> intro hc)
        | refine A.nil_seq ?_ | refine .nl ?_ | refine .dd ?_ | refine .ys ?_ | refine .no ?_ | (refine A.guard rfl ?_ ?_ <;> intro hc)
        | refine .lb ?_ | refine .ln ?_ | refine .ls ?_ | refine .pv ?_ | refine .ix ?_ | refine .pt ?_ | refine .pf ?_ | refine .bx ?_ | refine .al ?_ | refine .st ?_ | refine .ad ?_ | refine .sb ?_ | refine .mf ?_ | refine .cl ?_ | refine .cw ?_ | refine .ck ?_ | fail
      refine HCode.forK ps.length (fun i => [(6, .int .i64 i), (4, .slice (ps.map Par.enc) (.own 0 10)), (3, .int .i64 k), (1, .rptr s.enc)]) (fun _ => ⟨[], [.len ps.length]⟩) (fun _ => True) ⟨rfl, rfl, rfl, rfl, trivial⟩ rfl trivial fun i hi _ => ?_
      by_cases h3 : i < ps.length
      · have d3 : decide ((i : Int) < (ps.length : Int)) = true := by simp [h3]
        have x3 := map_get' (f := Par.enc) h3
        have hpz := sumSize_mem (size := Par.size) (List.getElem_mem h3)
        have hte : ps[i].size = ps[i].name.length + (ps[i].t.name.length + 4) + ps[i].d.size + 3 := rfl
        obtain ⟨g1, g2⟩ := hpp ps[i] (List.getElem_mem h3)
        have hE := dEntry s ps[i].t.name (by omega)
        rw [g1] at hE
        have hR := lRight s ps[i].t ps[i].d (by omega) (by omega) (by omega)
        cases gh : ps[i].has with
        | false =>
          repeat' first
            | refine .seq ?_ | refine .rg ?_ | refine .rd ?_ | refine .block ?_ | refine .scope ?_ | refine .skip ?_ | refine .label ?_ | refine .exit ?_ | refine .ret ?_
            | refine .ct ?_ | refine .cf ?_ | refine .cy ?_ | refine .cn ?_ | (refine .cond rfl ?_ ?_ <;> intro hc)
            | refine A.nil_seq ?_ | refine .nl ?_ | refine .dd ?_ | refine .ys ?_ | refine .no ?_ | (refine A.guard rfl ?_ ?_ <;> intro hc)
            | refine .lb ?_ | refine .ln ?_ | refine .ls ?_ | refine .pv ?_ | refine .ix ?_ | refine .pt ?_ | refine .pf ?_ | refine .bx ?_ | refine .al ?_ | refine .st ?_ | refine .ad ?_ | refine .sb ?_ | refine .mf ?_ | refine .cl ?_ | refine .cw ?_ | refine .ck ?_ | fail
          exact ⟨h3, ⟨rfl, rfl, rfl, rfl, trivial⟩, by simp [belowS, AV.low, AV.low_of_closed, Sch.closed], rfl, rfl, trivial⟩
        | true =>
          rw [g2 gh] at hR
          repeat' first
            | refine .seq ?_ | refine .rg ?_ | refine .rd ?_ | refine .block ?_ | refine .scope ?_ | refine .skip ?_ | refine .label ?_ | refine .exit ?_ | refine .ret ?_
            | refine .ct ?_ | refine .cf ?_ | refine .cy ?_ | refine .cn ?_ | (refine .cond rfl ?_ ?_ <;> intro hc)
            | refine A.nil_seq ?_ | refine .nl ?_ | refine .dd ?_ | refine .ys ?_ | refine .no ?_ | (refine A.guard rfl ?_ ?_ <;> intro hc)
            | refine .lb ?_ | refine .ln ?_ | refine .ls ?_ | refine .pv ?_ | refine .ix ?_ | refine .pt ?_ | refine .pf ?_ | refine .bx ?_ | refine .al ?_ | refine .st ?_ | refine .ad ?_ | refine .sb ?_ | refine .mf ?_ | refine .cl ?_ | refine .cw ?_ | refine .ck ?_ | fail
          exact ⟨h3, ⟨rfl, rfl, rfl, rfl, trivial⟩, by simp [belowS, AV.low, AV.low_of_closed, Sch.closed], rfl, rfl, trivial⟩
      · have d3 : decide ((i : Int) < (ps.length : Int)) = false := by simp; omega
        repeat' first
          | refine .seq ?_ | refine .rg ?_ | refine .rd ?_ | refine .block ?_ | refine .scope ?_ | refine .skip ?_ | refine .label ?_ | refine .exit ?_ | refine .ret ?_
          | refine .ct ?_ | refine .cf ?_ | refine .cy ?_ | refine .cn ?_ | (refine .cond rfl ?_ ?_ <;> intro hc)
          | refine A.nil_seq ?_ | refine .nl ?_ | refine .dd ?_ | refine .ys ?_ | refine .no ?_ | (refine A.guard rfl ?_ ?_ <;> intro hc)
          | refine .lb ?_ | refine .ln ?_ | refine .ls ?_ | refine .pv ?_ | refine .ix ?_ | refine .pt ?_ | refine .pf ?_ | refine .bx ?_ | refine .al ?_ | refine .st ?_ | refine .ad ?_ | refine .sb ?_ | refine .mf ?_ | refine .cl ?_ | refine .cw ?_ | refine .ck ?_ | fail
        exact ⟨h1, ⟨rfl, rfl, trivial⟩, by simp [belowS, AV.low, AV.low_of_closed, Sch.closed], rfl, rfl, trivial⟩
  · have d1 : decide ((k : Int) < (s.defs.length : Int)) = false := by simp; omega
    repeat' first
      | refine .seq ?_ | refine .rg ?_ | refine .rd ?_ | refine .block ?_ | refine .scope ?_ | refine .skip ?_ | refine .label ?_ | refine .exit ?_ | refine .ret ?_
      | refine .ct ?_ | refine .cf ?_ | refine .cy ?_ | refine .cn ?_ | (refine .cond rfl ?_ ?_ <;> intro hc)
      | refine A.nil_seq ?_ | refine .nl ?_ | refine .dd ?_ | refine .ys ?_ | refine .no ?_ | (refine A.guard rfl ?_ ?_ <;> intro hc)
      | refine .lb ?_ | refine .ln ?_ | refine .ls ?_ | refine .pv ?_ | refine .ix ?_ | refine .pt ?_ | refine .pf ?_ | refine .bx ?_ | refine .al ?_ | refine .st ?_ | refine .ad ?_ | refine .sb ?_ | refine .mf ?_ | refine .cl ?_ | refine .cw ?_ | refine .ck ?_ | fail
    exact Fin.ret1 rfl (Weak.refl _)
end Go.Proofs.YtegakkonlhmeaaaGreatDoor
namespace Go.Proofs.YtegakkonlhmeaaaGreatDoor
open Go Go.Av
set_option maxRecDepth 100000
set_option linter.unusedVariables false
set_option linter.unusedSimpArgs false

def zeroF : Fld := ⟨[], [], ⟨[], 0, 0⟩, []⟩
def fieldR (s : Sch) (typ name : Str) : Fld × Bool := match fieldO s typ name with
  | none => (zeroF, false)
  | some f => (f, true)
theorem sound_face {s : Sch} (h : checkI s = 0) {d : Dfn} (hd : d ∈ s.defs) {n : Str} (hn : n ∈ d.faces) :
    ∃ f ∈ s.defs, findR s n = (f, true) ∧ f.kind = 2 ∧ f.name = n ∧ (d.kind = 1 → meetsB s d.name n = true) ∧ ∀ g ∈ f.fields, ∃ b, b ∈ d.fields ∧ fieldR s d.name g.name = (b, true) ∧ subB s b.t g.t = true := by
  obtain ⟨h1, _, h3, _, h5, h6, _, _, _⟩ := check_zero.1 h
  have t5 := every_iff.1 h5 d hd
  have t6 := every_iff.1 h6 d hd
  unfold faces1 face2 at t5
  unfold kept1 at t6
  simp only [Bool.not_eq_true', List.any_eq_false, Bool.or_eq_true, Bool.not_eq_true, not_or, Bool.not_eq_false', Bool.not_eq_false] at t5 t6
  obtain ⟨q1, q2, q3⟩ := t5 n hn
  have q6 := t6 n hn
  have hf : ∃ f, findO s n = some f := by
    unfold findR at q1
    cases e : findO s n with
    | none => rw [e] at q1; simp at q1
    | some f => exact ⟨f, rfl⟩
  obtain ⟨f, hf⟩ := hf
  have hR : findR s n = (f, true) := by rw [findR, hf]
  rw [hR] at q2
  have k2 : f.kind = 2 := by simpa using q2
  obtain ⟨hm, hname⟩ := find_named hf (by omega)
  have hdk := dfnOk_faces (sdl_dfn (named_iff.1 h1).1 hd) (List.ne_nil_of_mem hn)
  refine ⟨f, hm, hR, k2, hname, fun k1 => ?_, fun g hg => ?_⟩
  · unfold meetsB
    refine List.any_eq_true.2 ⟨d.name, ?_, ?_⟩
    · unfold possB; rw [named_find h1 hd]; simp [k1]
    · rw [decide_eq_true_eq]
      unfold possB; rw [hf]
      simp only [k2]
      rw [if_neg (by decide), if_pos trivial, mem_possF]
      exact .inr ⟨d, hd, k1, hn, rfl⟩
  · unfold hasB at q6
    rw [hR, List.all_eq_true] at q6
    have q7 := q6 g hg
    have ho := (good_own (single_fields h3 hm).1).2 g.name (List.mem_map.2 ⟨g, hg, rfl⟩)
    have e1 : fieldO s d.name g.name = fldO d.fields g.name := by
      unfold fieldO
      rw [if_neg (by rintro ⟨e, _⟩; rw [e] at ho; exact absurd ho (by decide)), named_findR h1 hd, if_pos hdk]
    cases e2 : fldO d.fields g.name with
    | none => rw [e2] at q7; simp at q7
    | some b =>
      rw [e2] at q7
      simp only [Bool.and_eq_true] at q7
      exact ⟨b, List.mem_of_find?_eq_some e2, by rw [fieldR, e1, e2], q7.1⟩
end Go.Proofs.YtegakkonlhmeaaaGreatDoor
namespace Go.Proofs.YtegakkonlhmeaaaGreatDoor
open Go Go.Av
set_option maxRecDepth 100000
set_option maxHeartbeats 8000000
set_option linter.unusedVariables false
set_option linter.unusedSimpArgs false
attribute [local irreducible] HCode AOps PFn AFn Av.Step TStep

theorem weak_fld0 {n : Str} {a : Str} {b c : Int} {t1 t2 : Tk} : Weak (.agg [.str n, .slice [] t1, .str a, .int .i64 b, .int .i64 c, .slice [] t2]) (Fld.enc ⟨n, [], ⟨a, b, c⟩, []⟩) :=
  Weak.agg (WeakL.cons (Weak.refl _) (WeakL.cons (Weak.no (WeakL.refl _)) (WeakL.cons (Weak.refl _) (WeakL.cons (Weak.refl _) (WeakL.cons (Weak.refl _) (WeakL.cons (Weak.no (WeakL.refl _)) (WeakL.refl _)))))))
theorem dField1 (x : Fld) (name : Str) : PFn Tryz.prog 56 [x.enc, .rptr (.str name)] (.bool (x.name == name)) := by
  refine AFn.plain rfl (by simp [AV.closed, AV.closedL, Fld.closed]) (AFn.enter [3] Tryz.func56 rfl rfl rfl rfl rfl (by decide) ?_)
  repeat' first
    | refine .br ?_
    | refine .seq ?_ | refine .rg ?_ | refine .rd ?_ | refine .block ?_ | refine .scope ?_ | refine .skip ?_ | refine .label ?_ | refine .exit ?_ | refine .ret ?_
    | refine .ct ?_ | refine .cf ?_ | refine .cy ?_ | refine .cn ?_ | (refine .cond rfl ?_ ?_ <;> intro hc)
    | refine A.nil_seq ?_ | refine .nl ?_ | refine .dd ?_ | refine .ys ?_ | refine .no ?_ | (refine A.guard rfl ?_ ?_ <;> intro hc)
    | refine .lb ?_ | refine .ln ?_ | refine .ls ?_ | refine .pv ?_ | refine .ix ?_ | refine .pt ?_ | refine .pf ?_ | refine .bx ?_ | refine .al ?_ | refine .st ?_ | refine .ad ?_ | refine .sb ?_ | refine .mf ?_ | refine .cl ?_ | refine .cw ?_ | refine .ck ?_ | fail
  exact Fin.ret1 rfl (Weak.refl _)
theorem fieldR_tn {s : Sch} {typ name : Str} (h : name = sTypename) (hc : compB s typ = true) : fieldR s typ name = (⟨sTypename, [], ⟨sString, 0, 1⟩, []⟩, true) := by
  unfold fieldR fieldO; rw [if_pos ⟨h, hc⟩, h]
theorem fieldR_no {s : Sch} {typ name : Str} (h : ¬ (name = sTypename ∧ compB s typ = true)) (hk : ¬ ((findR s typ).1.kind = 1 ∨ (findR s typ).1.kind = 2)) : fieldR s typ name = (zeroF, false) := by
  unfold fieldR fieldO; rw [if_neg h, if_neg hk]
theorem fieldR_in {s : Sch} {typ name : Str} (h : ¬ (name = sTypename ∧ compB s typ = true)) (hk : (findR s typ).1.kind = 1 ∨ (findR s typ).1.kind = 2) : fieldR s typ name = match fldO (findR s typ).1.fields name with | none => (zeroF, false) | some f => (f, true) := by
  unfold fieldR fieldO; (rw [if_neg h, if_pos hk]) <;> (cases fldO (findR s typ).1.fields name <;> rfl)
theorem find_kind {s : Sch} {n : Str} (h : (findR s n).2 = false) : (findR s n).1.kind = 0 := by
  unfold findR at h ⊢
  split
  · rename_i d hd; rw [hd] at h; cases h
  · rfl
theorem dField (s : Sch) (typ name : Str) (hs : s.size ≤ 68719476736) : PFn Tryz.prog 24 [s.enc, .str typ, .str name] (.tup [(fieldR s typ name).1.enc, .bool (fieldR s typ name).2]) := by
  have hC := dComposite s typ hs
  have hF := dFind s typ hs
  have hfs := (findR_size (name := typ) hs).2.2.2.1
  have h := sIndexFFld (findR s typ).1.fields 56 [.rptr (.str name)] (fun p => p.name == name) (by omega) rfl (fun x _ => dField1 x name)
  have e1 := @fieldR_tn s typ name
  have e2 := @fieldR_no s typ name
  have e3 := @fieldR_in s typ name
  have e4 := @find_kind s typ
  refine AFn.plain (by simp [AV.closed, AV.closedL, Fld.closed]) (by simp [AV.closed, AV.closedL, Sch.closed]) (AFn.enterR [.cell 6 43, .tmp 7] Tryz.func24 rfl rfl rfl rfl rfl ?_)
  by_cases c : name = sTypename ∧ compB s typ = true
  · obtain ⟨c1, c2⟩ := c
    rw [e1 c1 c2]
    subst c1
    rw [c2] at hC
    have q1 : (sTypename == [95, 95, 116, 121, 112, 101, 110, 97, 109, 101]) = true := by decide
    repeat' first
      | refine .br ?_
      | refine .seq ?_ | refine .rg ?_ | refine .rd ?_ | refine .block ?_ | refine .scope ?_ | refine .skip ?_ | refine .label ?_ | refine .exit ?_ | refine .ret ?_
      | refine .ct ?_ | refine .cf ?_ | refine .cy ?_ | refine .cn ?_ | (refine .cond rfl ?_ ?_ <;> intro hc)
      | refine A.nil_seq ?_ | refine .nl ?_ | refine .dd ?_ | refine .ys ?_ | refine .no ?_ | (refine A.guard rfl ?_ ?_ <;> intro hc)
      | refine .lb ?_ | refine .ln ?_ | refine .ls ?_ | refine .pv ?_ | refine .ix ?_ | refine .pt ?_ | refine .pf ?_ | refine .bx ?_ | refine .al ?_ | refine .st ?_ | refine .ad ?_ | refine .sb ?_ | refine .mf ?_ | refine .cl ?_ | refine .cw ?_ | refine .ck ?_ | fail
    refine FinR.ret1 rfl ?_
    exact Weak.tup (WeakL.cons weak_fld0 (WeakL.refl _))
  · have hn : (name == [95, 95, 116, 121, 112, 101, 110, 97, 109, 101]) = true → compB s typ = false := fun hx => by
      have : name = sTypename := by unfold sTypename; simpa using hx
      cases hcc : compB s typ with
      | false => rfl
      | true => exact absurd ⟨this, hcc⟩ c
    by_cases k : (findR s typ).1.kind = 1 ∨ (findR s typ).1.kind = 2
    · rw [e3 c k]
      have hok : (findR s typ).2 = true := by
        cases ho : (findR s typ).2 with
        | true => rfl
        | false => have := e4 ho; omega
      have kk : ((findR s typ).1.kind != 1) = true → ((findR s typ).1.kind != 2) = false := fun hx => by
        rcases k with k | k
        · rw [k] at hx; cases hx
        · rw [k]; rfl
      generalize findR s typ = r at *
      obtain ⟨d, ok⟩ := r
      dsimp only at *
      subst hok
      rcases idxFrom_spec (fun p : Fld => p.name == name) d.fields 0 with ⟨h1, h2⟩ | ⟨j, hj, h1, h2⟩
      · rw [h1] at h
        have e5 : fldO d.fields name = none := h2
        rw [e5]
        cases q0 : name == [95, 95, 116, 121, 112, 101, 110, 97, 109, 101]
        · cases q1 : d.kind != 1
          · repeat' first
              | refine .br ?_
              | refine .seq ?_ | refine .rg ?_ | refine .rd ?_ | refine .block ?_ | refine .scope ?_ | refine .skip ?_ | refine .label ?_ | refine .exit ?_ | refine .ret ?_
              | refine .ct ?_ | refine .cf ?_ | refine .cy ?_ | refine .cn ?_ | (refine .cond rfl ?_ ?_ <;> intro hc)
              | refine A.nil_seq ?_ | refine .nl ?_ | refine .dd ?_ | refine .ys ?_ | refine .no ?_ | (refine A.guard rfl ?_ ?_ <;> intro hc)
              | refine .lb ?_ | refine .ln ?_ | refine .ls ?_ | refine .pv ?_ | refine .ix ?_ | refine .pt ?_ | refine .pf ?_ | refine .bx ?_ | refine .al ?_ | refine .st ?_ | refine .ad ?_ | refine .sb ?_ | refine .mf ?_ | refine .cl ?_ | refine .cw ?_ | refine .ck ?_ | fail
            refine FinR.ret1 rfl ?_
            exact Weak.tup (WeakL.cons weak_fld0 (WeakL.refl _))
          · have q2 := kk q1
            repeat' first
              | refine .br ?_
              | refine .seq ?_ | refine .rg ?_ | refine .rd ?_ | refine .block ?_ | refine .scope ?_ | refine .skip ?_ | refine .label ?_ | refine .exit ?_ | refine .ret ?_
              | refine .ct ?_ | refine .cf ?_ | refine .cy ?_ | refine .cn ?_ | (refine .cond rfl ?_ ?_ <;> intro hc)
              | refine A.nil_seq ?_ | refine .nl ?_ | refine .dd ?_ | refine .ys ?_ | refine .no ?_ | (refine A.guard rfl ?_ ?_ <;> intro hc)
              | refine .lb ?_ | refine .ln ?_ | refine .ls ?_ | refine .pv ?_ | refine .ix ?_ | refine .pt ?_ | refine .pf ?_ | refine .bx ?_ | refine .al ?_ | refine .st ?_ | refine .ad ?_ | refine .sb ?_ | refine .mf ?_ | refine .cl ?_ | refine .cw ?_ | refine .ck ?_ | fail
            refine FinR.ret1 rfl ?_
            exact Weak.tup (WeakL.cons weak_fld0 (WeakL.refl _))
        · rw [hn q0] at hC
          cases q1 : d.kind != 1
          · repeat' first
              | refine .br ?_
              | refine .seq ?_ | refine .rg ?_ | refine .rd ?_ | refine .block ?_ | refine .scope ?_ | refine .skip ?_ | refine .label ?_ | refine .exit ?_ | refine .ret ?_
              | refine .ct ?_ | refine .cf ?_ | refine .cy ?_ | refine .cn ?_ | (refine .cond rfl ?_ ?_ <;> intro hc)
              | refine A.nil_seq ?_ | refine .nl ?_ | refine .dd ?_ | refine .ys ?_ | refine .no ?_ | (refine A.guard rfl ?_ ?_ <;> intro hc)
              | refine .lb ?_ | refine .ln ?_ | refine .ls ?_ | refine .pv ?_ | refine .ix ?_ | refine .pt ?_ | refine .pf ?_ | refine .bx ?_ | refine .al ?_ | refine .st ?_ | refine .ad ?_ | refine .sb ?_ | refine .mf ?_ | refine .cl ?_ | refine .cw ?_ | refine .ck ?_ | fail
            refine FinR.ret1 rfl ?_
            exact Weak.tup (WeakL.cons weak_fld0 (WeakL.refl _))
          · have q2 := kk q1
            repeat' first
              | refine .br ?_
              | refine .seq ?_ | refine .rg ?_ | refine .rd ?_ | refine .block ?_ | refine .scope ?_ | refine .skip ?_ | refine .label ?_ | refine .exit ?_ | refine .ret ?_
              | refine .ct ?_ | refine .cf ?_ | refine .cy ?_ | refine .cn ?_ | (refine .cond rfl ?_ ?_ <;> intro hc)
              | refine A.nil_seq ?_ | refine .nl ?_ | refine .dd ?_ | refine .ys ?_ | refine .no ?_ | (refine A.guard rfl ?_ ?_ <;> intro hc)
              | refine .lb ?_ | refine .ln ?_ | refine .ls ?_ | refine .pv ?_ | refine .ix ?_ | refine .pt ?_ | refine .pf ?_ | refine .bx ?_ | refine .al ?_ | refine .st ?_ | refine .ad ?_ | refine .sb ?_ | refine .mf ?_ | refine .cl ?_ | refine .cw ?_ | refine .ck ?_ | fail
            refine FinR.ret1 rfl ?_
            exact Weak.tup (WeakL.cons weak_fld0 (WeakL.refl _))
      · rw [h1] at h
        have e5 : fldO d.fields name = some d.fields[j] := h2
        rw [e5]
        have d1 : decide (((0 + j : Nat) : Int) < 0) = false := decide_eq_false (by omega)
        have x1 : (d.fields.map Fld.enc)[0 + j]? = some d.fields[j].enc := by rw [Nat.zero_add]; exact map_get' (f := Fld.enc) hj
        cases q0 : name == [95, 95, 116, 121, 112, 101, 110, 97, 109, 101]
        · cases q1 : d.kind != 1
          · repeat' first
              | refine .br ?_
              | refine .seq ?_ | refine .rg ?_ | refine .rd ?_ | refine .block ?_ | refine .scope ?_ | refine .skip ?_ | refine .label ?_ | refine .exit ?_ | refine .ret ?_
              | refine .ct ?_ | refine .cf ?_ | refine .cy ?_ | refine .cn ?_ | (refine .cond rfl ?_ ?_ <;> intro hc)
              | refine A.nil_seq ?_ | refine .nl ?_ | refine .dd ?_ | refine .ys ?_ | refine .no ?_ | (refine A.guard rfl ?_ ?_ <;> intro hc)
              | refine .lb ?_ | refine .ln ?_ | refine .ls ?_ | refine .pv ?_ | refine .ix ?_ | refine .pt ?_ | refine .pf ?_ | refine .bx ?_ | refine .al ?_ | refine .st ?_ | refine .ad ?_ | refine .sb ?_ | refine .mf ?_ | refine .cl ?_ | refine .cw ?_ | refine .ck ?_ | fail
            exact FinR.ret1 rfl (Weak.refl _)
          · have q2 := kk q1
            repeat' first
              | refine .br ?_
              | refine .seq ?_ | refine .rg ?_ | refine .rd ?_ | refine .block ?_ | refine .scope ?_ | refine .skip ?_ | refine .label ?_ | refine .exit ?_ | refine .ret ?_
              | refine .ct ?_ | refine .cf ?_ | refine .cy ?_ | refine .cn ?_ | (refine .cond rfl ?_ ?_ <;> intro hc)
              | refine A.nil_seq ?_ | refine .nl ?_ | refine .dd ?_ | refine .ys ?_ | refine .no ?_ | (refine A.guard rfl ?_ ?_ <;> intro hc)
              | refine .lb ?_ | refine .ln ?_ | refine .ls ?_ | refine .pv ?_ | refine .ix ?_ | refine .pt ?_ | refine .pf ?_ | refine .bx ?_ | refine .al ?_ | refine .st ?_ | refine .ad ?_ | refine .sb ?_ | refine .mf ?_ | refine .cl ?_ | refine .cw ?_ | refine .ck ?_ | fail
            exact FinR.ret1 rfl (Weak.refl _)
        · rw [hn q0] at hC
          cases q1 : d.kind != 1
          · repeat' first
              | refine .br ?_
              | refine .seq ?_ | refine .rg ?_ | refine .rd ?_ | refine .block ?_ | refine .scope ?_ | refine .skip ?_ | refine .label ?_ | refine .exit ?_ | refine .ret ?_
              | refine .ct ?_ | refine .cf ?_ | refine .cy ?_ | refine .cn ?_ | (refine .cond rfl ?_ ?_ <;> intro hc)
              | refine A.nil_seq ?_ | refine .nl ?_ | refine .dd ?_ | refine .ys ?_ | refine .no ?_ | (refine A.guard rfl ?_ ?_ <;> intro hc)
              | refine .lb ?_ | refine .ln ?_ | refine .ls ?_ | refine .pv ?_ | refine .ix ?_ | refine .pt ?_ | refine .pf ?_ | refine .bx ?_ | refine .al ?_ | refine .st ?_ | refine .ad ?_ | refine .sb ?_ | refine .mf ?_ | refine .cl ?_ | refine .cw ?_ | refine .ck ?_ | fail
            exact FinR.ret1 rfl (Weak.refl _)
          · have q2 := kk q1
            repeat' first
              | refine .br ?_
              | refine .seq ?_ | refine .rg ?_ | refine .rd ?_ | refine .block ?_ | refine .scope ?_ | refine .skip ?_ | refine .label ?_ | refine .exit ?_ | refine .ret ?_
              | refine .ct ?_ | refine .cf ?_ | refine .cy ?_ | refine .cn ?_ | (refine .cond rfl ?_ ?_ <;> intro hc)
              | refine A.nil_seq ?_ | refine .nl ?_ | refine .dd ?_ | refine .ys ?_ | refine .no ?_ | (refine A.guard rfl ?_ ?_ <;> intro hc)
              | refine .lb ?_ | refine .ln ?_ | refine .ls ?_ | refine .pv ?_ | refine .ix ?_ | refine .pt ?_ | refine .pf ?_ | refine .bx ?_ | refine .al ?_ | refine .st ?_ | refine .ad ?_ | refine .sb ?_ | refine .mf ?_ | refine .cl ?_ | refine .cw ?_ | refine .ck ?_ | fail
            exact FinR.ret1 rfl (Weak.refl _)
    · rw [e2 c k]
      have k1 : ((findR s typ).1.kind != 1) = true := by rw [bne_iff_ne]; exact fun x => k (.inl x)
      have k2 : ((findR s typ).1.kind != 2) = true := by rw [bne_iff_ne]; exact fun x => k (.inr x)
      cases q0 : name == [95, 95, 116, 121, 112, 101, 110, 97, 109, 101]
      · cases ho : (findR s typ).2 <;> rw [ho] at hF
        · repeat' first
            | refine .br ?_
            | refine .seq ?_ | refine .rg ?_ | refine .rd ?_ | refine .block ?_ | refine .scope ?_ | refine .skip ?_ | refine .label ?_ | refine .exit ?_ | refine .ret ?_
            | refine .ct ?_ | refine .cf ?_ | refine .cy ?_ | refine .cn ?_ | (refine .cond rfl ?_ ?_ <;> intro hc)
            | refine A.nil_seq ?_ | refine .nl ?_ | refine .dd ?_ | refine .ys ?_ | refine .no ?_ | (refine A.guard rfl ?_ ?_ <;> intro hc)
            | refine .lb ?_ | refine .ln ?_ | refine .ls ?_ | refine .pv ?_ | refine .ix ?_ | refine .pt ?_ | refine .pf ?_ | refine .bx ?_ | refine .al ?_ | refine .st ?_ | refine .ad ?_ | refine .sb ?_ | refine .mf ?_ | refine .cl ?_ | refine .cw ?_ | refine .ck ?_ | fail
          refine FinR.ret1 rfl ?_
          exact Weak.tup (WeakL.cons weak_fld0 (WeakL.refl _))
        · repeat' first
            | refine .br ?_
            | refine .seq ?_ | refine .rg ?_ | refine .rd ?_ | refine .block ?_ | refine .scope ?_ | refine .skip ?_ | refine .label ?_ | refine .exit ?_ | refine .ret ?_
            | refine .ct ?_ | refine .cf ?_ | refine .cy ?_ | refine .cn ?_ | (refine .cond rfl ?_ ?_ <;> intro hc)
            | refine A.nil_seq ?_ | refine .nl ?_ | refine .dd ?_ | refine .ys ?_ | refine .no ?_ | (refine A.guard rfl ?_ ?_ <;> intro hc)
            | refine .lb ?_ | refine .ln ?_ | refine .ls ?_ | refine .pv ?_ | refine .ix ?_ | refine .pt ?_ | refine .pf ?_ | refine .bx ?_ | refine .al ?_ | refine .st ?_ | refine .ad ?_ | refine .sb ?_ | refine .mf ?_ | refine .cl ?_ | refine .cw ?_ | refine .ck ?_ | fail
          refine FinR.ret1 rfl ?_
          exact Weak.tup (WeakL.cons weak_fld0 (WeakL.refl _))
      · rw [hn q0] at hC
        cases ho : (findR s typ).2 <;> rw [ho] at hF
        · repeat' first
            | refine .br ?_
            | refine .seq ?_ | refine .rg ?_ | refine .rd ?_ | refine .block ?_ | refine .scope ?_ | refine .skip ?_ | refine .label ?_ | refine .exit ?_ | refine .ret ?_
            | refine .ct ?_ | refine .cf ?_ | refine .cy ?_ | refine .cn ?_ | (refine .cond rfl ?_ ?_ <;> intro hc)
            | refine A.nil_seq ?_ | refine .nl ?_ | refine .dd ?_ | refine .ys ?_ | refine .no ?_ | (refine A.guard rfl ?_ ?_ <;> intro hc)
            | refine .lb ?_ | refine .ln ?_ | refine .ls ?_ | refine .pv ?_ | refine .ix ?_ | refine .pt ?_ | refine .pf ?_ | refine .bx ?_ | refine .al ?_ | refine .st ?_ | refine .ad ?_ | refine .sb ?_ | refine .mf ?_ | refine .cl ?_ | refine .cw ?_ | refine .ck ?_ | fail
          refine FinR.ret1 rfl ?_
          exact Weak.tup (WeakL.cons weak_fld0 (WeakL.refl _))
        · repeat' first
            | refine .br ?_
            | refine .seq ?_ | refine .rg ?_ | refine .rd ?_ | refine .block ?_ | refine .scope ?_ | refine .skip ?_ | refine .label ?_ | refine .exit ?_ | refine .ret ?_
            | refine .ct ?_ | refine .cf ?_ | refine .cy ?_ | refine .cn ?_ | (refine .cond rfl ?_ ?_ <;> intro hc)
            | refine A.nil_seq ?_ | refine .nl ?_ | refine .dd ?_ | refine .ys ?_ | refine .no ?_ | (refine A.guard rfl ?_ ?_ <;> intro hc)
            | refine .lb ?_ | refine .ln ?_ | refine .ls ?_ | refine .pv ?_ | refine .ix ?_ | refine .pt ?_ | refine .pf ?_ | refine .bx ?_ | refine .al ?_ | refine .st ?_ | refine .ad ?_ | refine .sb ?_ | refine .mf ?_ | refine .cl ?_ | refine .cw ?_ | refine .ck ?_ | fail
          refine FinR.ret1 rfl ?_
          exact Weak.tup (WeakL.cons weak_fld0 (WeakL.refl _))
end Go.Proofs.YtegakkonlhmeaaaGreatDoor
set_option linter.unusedVariables false
set_option linter.unusedSimpArgs false
namespace Go.Proofs.YtegakkonlhmeaaaGreatDoor
open Go Go.Av
set_option maxRecDepth 100000
set_option maxHeartbeats 4000000
attribute [local irreducible] HCode AOps PFn AFn Av.Step TStep

theorem any_take {α : Type} {l : List α} {k : Nat} (f : α → Bool) (h : k < l.length) : (l.take (k + 1)).any f = ((l.take k).any f || f l[k]) := by
  rw [List.take_succ_eq_append_getElem h, List.any_append]; simp
theorem any_true {α : Type} {l : List α} {k : Nat} (f : α → Bool) (h : k < l.length) (hf : f l[k] = true) : l.any f = true := List.any_eq_true.2 ⟨_, List.getElem_mem h, hf⟩
theorem dMeets (s : Sch) (a b : Str) (hs : s.size ≤ 1048640) : PFn Tryz.prog 23 [s.enc, .str a, .str b] (.bool (meetsB s a b)) := by
  have h1 := dPossible s a hs
  have h2 := dPossible s b hs
  have p1 := poss_len s a hs
  have p2 := poss_len s b hs
  unfold meetsB
  generalize possB s a = la at *
  generalize possB s b = lb at *
  have m1 : (la.map AV.str).length = la.length := List.length_map ..
  have m2 : (lb.map AV.str).length = lb.length := List.length_map ..
  refine AFn.plain rfl (by simp [AV.closedL, AV.closed, Sch.closed]) (AFn.enter [6] Tryz.func23 rfl rfl rfl rfl rfl (by decide) ?_)
  repeat' first
    | refine .br ?_
    | refine .seq ?_ | refine .rg ?_ | refine .rd ?_ | refine .block ?_ | refine .scope ?_ | refine .skip ?_ | refine .label ?_ | refine .exit ?_ | refine .ret ?_
    | refine .ct ?_ | refine .cf ?_ | refine .cy ?_ | refine .cn ?_ | (refine .cond rfl ?_ ?_ <;> intro hc)
    | refine A.nil_seq ?_ | refine .nl ?_ | refine .dd ?_ | refine .ys ?_ | refine .no ?_ | (refine A.guard rfl ?_ ?_ <;> intro hc)
    | refine .lb ?_ | refine .ln ?_ | refine .ls ?_ | refine .pv ?_ | refine .ix ?_ | refine .pt ?_ | refine .pf ?_ | refine .bx ?_ | refine .al ?_ | refine .st ?_ | refine .ad ?_ | refine .sb ?_ | refine .mf ?_ | refine .cl ?_ | refine .cw ?_ | refine .ck ?_
    | refine A.call rfl h1 (WeakL.refl _) ?_ | refine A.call rfl h2 (WeakL.refl _) ?_ | fail
  refine HCode.forK la.length (fun k => [(20, .int .i64 k), (19, .int .i64 la.length), (18, .slice (la.map AV.str) .no), (7, .slice (lb.map AV.str) .no), (8, .bool false)]) (fun _ => ⟨[], []⟩) (fun k => (la.take k).any (fun x => decide (x ∈ lb)) = false) ⟨rfl, by rw [← m1]; rfl, rfl, rfl, rfl, trivial⟩ rfl (by simp) fun k hk hj => ?_
  by_cases e1 : k < la.length
  · have d1 : decide ((k : Int) < (la.length : Int)) = true := by simp [e1]
    have x1 := map_get' (f := AV.str) e1
    repeat' first
      | refine .seq ?_ | refine .rg ?_ | refine .rd ?_ | refine .block ?_ | refine .scope ?_ | refine .skip ?_ | refine .label ?_ | refine .exit ?_ | refine .ret ?_
      | refine .ct ?_ | refine .cf ?_ | refine .cy ?_ | refine .cn ?_ | (refine .cond rfl ?_ ?_ <;> intro hc)
      | refine A.nil_seq ?_ | refine .nl ?_ | refine .dd ?_ | refine .ys ?_ | refine .no ?_ | (refine A.guard rfl ?_ ?_ <;> intro hc)
      | refine .lb ?_ | refine .ln ?_ | refine .ls ?_ | refine .pv ?_ | refine .ix ?_ | refine .pt ?_ | refine .pf ?_ | refine .bx ?_ | refine .al ?_ | refine .st ?_ | refine .ad ?_ | refine .sb ?_ | refine .mf ?_ | refine .cl ?_ | refine .cw ?_ | refine .ck ?_ | fail
    refine HCode.forK lb.length (fun j => [(26, .int .i64 j), (25, .int .i64 lb.length), (24, .slice (lb.map AV.str) .no), (10, .str la[k]), (20, .int .i64 k), (19, .int .i64 la.length), (18, .slice (la.map AV.str) .no), (7, .slice (lb.map AV.str) .no), (8, .bool false)]) (fun _ => ⟨[], []⟩) (fun j => la[k] ∉ lb.take j) ⟨rfl, by rw [← m2]; rfl, rfl, rfl, rfl, rfl, rfl, rfl, rfl, trivial⟩ rfl (by simp) fun j hj2 hn => ?_
    by_cases e2 : j < lb.length
    · have d2 : decide ((j : Int) < (lb.length : Int)) = true := by simp [e2]
      have x2 := map_get' (f := AV.str) e2
      by_cases e3 : la[k] = lb[j]
      · have q3 : (la[k] == lb[j]) = true := by simp [e3]
        have hr := any_true (fun x => decide (x ∈ lb)) e1 (decide_eq_true (e3 ▸ List.getElem_mem e2))
        rw [hr]
        repeat' first
          | refine .seq ?_ | refine .rg ?_ | refine .rd ?_ | refine .block ?_ | refine .scope ?_ | refine .skip ?_ | refine .label ?_ | refine .exit ?_ | refine .ret ?_
          | refine .ct ?_ | refine .cf ?_ | refine .cy ?_ | refine .cn ?_ | (refine .cond rfl ?_ ?_ <;> intro hc)
          | refine A.nil_seq ?_ | refine .nl ?_ | refine .dd ?_ | refine .ys ?_ | refine .no ?_ | (refine A.guard rfl ?_ ?_ <;> intro hc)
          | refine .lb ?_ | refine .ln ?_ | refine .ls ?_ | refine .pv ?_ | refine .ix ?_ | refine .pt ?_ | refine .pf ?_ | refine .bx ?_ | refine .al ?_ | refine .st ?_ | refine .ad ?_ | refine .sb ?_ | refine .mf ?_ | refine .cl ?_ | refine .cw ?_ | refine .ck ?_ | fail
        exact Fin.ret1 rfl (Weak.refl _)
      · have q3 : (la[k] == lb[j]) = false := by simp [e3]
        repeat' first
          | refine .seq ?_ | refine .rg ?_ | refine .rd ?_ | refine .block ?_ | refine .scope ?_ | refine .skip ?_ | refine .label ?_ | refine .exit ?_ | refine .ret ?_
          | refine .ct ?_ | refine .cf ?_ | refine .cy ?_ | refine .cn ?_ | (refine .cond rfl ?_ ?_ <;> intro hc)
          | refine A.nil_seq ?_ | refine .nl ?_ | refine .dd ?_ | refine .ys ?_ | refine .no ?_ | (refine A.guard rfl ?_ ?_ <;> intro hc)
          | refine .lb ?_ | refine .ln ?_ | refine .ls ?_ | refine .pv ?_ | refine .ix ?_ | refine .pt ?_ | refine .pf ?_ | refine .bx ?_ | refine .al ?_ | refine .st ?_ | refine .ad ?_ | refine .sb ?_ | refine .mf ?_ | refine .cl ?_ | refine .cw ?_ | refine .ck ?_ | fail
        exact ⟨e2, ⟨rfl, rfl, rfl, rfl, rfl, rfl, rfl, rfl, rfl, trivial⟩, by simp [belowS, AV.low], rfl, rfl, by rw [List.take_succ_eq_append_getElem e2, List.mem_append, List.mem_singleton]; exact fun h => h.elim hn e3⟩
    · have d2 : decide ((j : Int) < (lb.length : Int)) = false := by simp; omega
      obtain rfl : j = lb.length := by omega
      rw [List.take_length] at hn
      repeat' first
        | refine .seq ?_ | refine .rg ?_ | refine .rd ?_ | refine .block ?_ | refine .scope ?_ | refine .skip ?_ | refine .label ?_ | refine .exit ?_ | refine .ret ?_
        | refine .ct ?_ | refine .cf ?_ | refine .cy ?_ | refine .cn ?_ | (refine .cond rfl ?_ ?_ <;> intro hc)
        | refine A.nil_seq ?_ | refine .nl ?_ | refine .dd ?_ | refine .ys ?_ | refine .no ?_ | (refine A.guard rfl ?_ ?_ <;> intro hc)
        | refine .lb ?_ | refine .ln ?_ | refine .ls ?_ | refine .pv ?_ | refine .ix ?_ | refine .pt ?_ | refine .pf ?_ | refine .bx ?_ | refine .al ?_ | refine .st ?_ | refine .ad ?_ | refine .sb ?_ | refine .mf ?_ | refine .cl ?_ | refine .cw ?_ | refine .ck ?_ | fail
      exact ⟨e1, ⟨rfl, rfl, rfl, rfl, rfl, trivial⟩, by simp [belowS, AV.low], rfl, rfl, by rw [any_take _ e1, hj]; simpa using hn⟩
  · have d1 : decide ((k : Int) < (la.length : Int)) = false := by simp; omega
    obtain rfl : k = la.length := by omega
    rw [List.take_length] at hj
    rw [hj]
    repeat' first
      | refine .seq ?_ | refine .rg ?_ | refine .rd ?_ | refine .block ?_ | refine .scope ?_ | refine .skip ?_ | refine .label ?_ | refine .exit ?_ | refine .ret ?_
      | refine .ct ?_ | refine .cf ?_ | refine .cy ?_ | refine .cn ?_ | (refine .cond rfl ?_ ?_ <;> intro hc)
      | refine A.nil_seq ?_ | refine .nl ?_ | refine .dd ?_ | refine .ys ?_ | refine .no ?_ | (refine A.guard rfl ?_ ?_ <;> intro hc)
      | refine .lb ?_ | refine .ln ?_ | refine .ls ?_ | refine .pv ?_ | refine .ix ?_ | refine .pt ?_ | refine .pf ?_ | refine .bx ?_ | refine .al ?_ | refine .st ?_ | refine .ad ?_ | refine .sb ?_ | refine .mf ?_ | refine .cl ?_ | refine .cw ?_ | refine .ck ?_ | fail
    exact Fin.ret1 rfl (Weak.refl _)
theorem schemaFaces (s : Sch) (hs : s.size ≤ 1048576) (ho : s.ok) : PFn Tryz.prog 6 [s.enc] (.bool true) := by
  have hL := light8 s (by omega)
  have hw := awake11
  have hc := wCheckS s (by omega) ho
  have hlen := sumSize_length (size := Dfn.size) (fun d => by unfold Dfn.size; omega) s.defs
  have hss : s.size = sumSize Dfn.size s.defs + s.query.length + s.mutation.length + 4 := rfl
  refine AFn.plain rfl (by simp [AV.closedL, AV.closed, Sch.closed]) (AFn.enter [2] Tryz.func6 rfl rfl rfl rfl rfl (by decide) ?_)
  cases c1 : lightS s <;> rw [c1] at hL
  · repeat' first
      | refine .br ?_
      | refine .seq ?_ | refine .rg ?_ | refine .rd ?_ | refine .block ?_ | refine .scope ?_ | refine .skip ?_ | refine .label ?_ | refine .exit ?_ | refine .ret ?_
      | refine .ct ?_ | refine .cf ?_ | refine .cy ?_ | refine .cn ?_ | (refine .cond rfl ?_ ?_ <;> intro hc)
      | refine A.nil_seq ?_ | refine .nl ?_ | refine .dd ?_ | refine .ys ?_ | refine .no ?_ | (refine A.guard rfl ?_ ?_ <;> intro hc)
      | refine .lb ?_ | refine .ln ?_ | refine .ls ?_ | refine .pv ?_ | refine .ix ?_ | refine .pt ?_ | refine .pf ?_ | refine .bx ?_ | refine .al ?_ | refine .st ?_ | refine .ad ?_ | refine .sb ?_ | refine .mf ?_ | refine .cl ?_ | refine .cw ?_ | refine .ck ?_ | fail
    exact Fin.ret1 rfl (Weak.refl _)
  by_cases c5 : checkI s = 0
  case neg =>
    have e5 : (checkI s != 0) = true := by simp [c5]
    repeat' first
      | refine .br ?_
      | refine .seq ?_ | refine .rg ?_ | refine .rd ?_ | refine .block ?_ | refine .scope ?_ | refine .skip ?_ | refine .label ?_ | refine .exit ?_ | refine .ret ?_
      | refine .ct ?_ | refine .cf ?_ | refine .cy ?_ | refine .cn ?_ | (refine .cond rfl ?_ ?_ <;> intro hc)
      | refine A.nil_seq ?_ | refine .nl ?_ | refine .dd ?_ | refine .ys ?_ | refine .no ?_ | (refine A.guard rfl ?_ ?_ <;> intro hc)
      | refine .lb ?_ | refine .ln ?_ | refine .ls ?_ | refine .pv ?_ | refine .ix ?_ | refine .pt ?_ | refine .pf ?_ | refine .bx ?_ | refine .al ?_ | refine .st ?_ | refine .ad ?_ | refine .sb ?_ | refine .mf ?_ | refine .cl ?_ | refine .cw ?_ | refine .ck ?_ | fail
    exact Fin.ret1 rfl (Weak.refl _)
  have e5 : (checkI s != 0) = false := by simp [c5]
  rw [c5] at hc
  repeat' first
    | refine .br ?_
    | refine .seq ?_ | refine .rg ?_ | refine .rd ?_ | refine .block ?_ | refine .scope ?_ | refine .skip ?_ | refine .label ?_ | refine .exit ?_ | refine .ret ?_
    | refine .ct ?_ | refine .cf ?_ | refine .cy ?_ | refine .cn ?_ | (refine .cond rfl ?_ ?_ <;> intro hc)
    | refine A.nil_seq ?_ | refine .nl ?_ | refine .dd ?_ | refine .ys ?_ | refine .no ?_ | (refine A.guard rfl ?_ ?_ <;> intro hc)
    | refine .lb ?_ | refine .ln ?_ | refine .ls ?_ | refine .pv ?_ | refine .ix ?_ | refine .pt ?_ | refine .pf ?_ | refine .bx ?_ | refine .al ?_ | refine .st ?_ | refine .ad ?_ | refine .sb ?_ | refine .mf ?_ | refine .cl ?_ | refine .cw ?_ | refine .ck ?_ | fail
  refine HCode.forK s.defs.length (fun k => [(3, .int .i64 k), (1, .rptr s.enc)]) (fun _ => ⟨[], []⟩) (fun _ => True) ⟨rfl, rfl, trivial⟩ rfl trivial fun k hk _ => ?_
  by_cases h1 : k < s.defs.length
  · have d1 : decide ((k : Int) < (s.defs.length : Int)) = true := by simp [h1]
    have x1 := map_get' (f := Dfn.enc) h1
    have hdz := Sch.dfn (List.getElem_mem h1)
    have hfc := fun n hn => sound_face c5 (List.getElem_mem h1) (n := n) hn
    generalize hd : s.defs[k] = d at *
    have hdl := d.lens
    repeat' first
      | refine A.allocv (d := 4) rfl rfl rfl rfl rfl ?_ | refine HCode.turn 4 rfl (Turn.freezeP rfl rfl rfl rfl) ?_
      | refine .seq ?_ | refine .rg ?_ | refine .rd ?_ | refine .block ?_ | refine .scope ?_ | refine .skip ?_ | refine .label ?_ | refine .exit ?_ | refine .ret ?_
      | refine .ct ?_ | refine .cf ?_ | refine .cy ?_ | refine .cn ?_ | (refine .cond rfl ?_ ?_ <;> intro hc)
      | refine A.nil_seq ?_ | refine .nl ?_ | refine .dd ?_ | refine .ys ?_ | refine .no ?_ | (refine A.guard rfl ?_ ?_ <;> intro hc)
      | refine .lb ?_ | refine .ln ?_ | refine .ls ?_ | refine .pv ?_ | refine .ix ?_ | refine .pt ?_ | refine .pf ?_ | refine .bx ?_ | refine .al ?_ | refine .st ?_ | refine .ad ?_ | refine .sb ?_ | refine .mf ?_ | refine .cl ?_ | refine .cw ?_ | refine .ck ?_
      | refine A.vstore (agg := true) rfl rfl rfl rfl rfl rfl rfl rfl rfl rfl rfl ?_ | fail
    refine HCode.forK d.faces.length (fun j => [(5, .int .i64 j), (4, .rptr d.enc), (3, .int .i64 k), (1, .rptr s.enc)]) (fun _ => ⟨[], [.len 2]⟩) (fun _ => True) ⟨rfl, rfl, rfl, rfl, trivial⟩ rfl trivial fun j hj _ => ?_
    by_cases h2 : j < d.faces.length
    · have d2 : decide ((j : Int) < (d.faces.length : Int)) = true := by simp [h2]
      have x2 := map_get' (f := AV.str) h2
      obtain ⟨f, hf, hR, k2, hn, hm, hg⟩ := hfc d.faces[j] (List.getElem_mem h2)
      have hF := dFind s d.faces[j] (by omega)
      have hM := dMeets s d.name f.name (by omega)
      rw [hR] at hF
      rw [← hn] at hm
      have hfl := f.lens
      have hfz := Sch.dfn hf
      have q2 : (f.kind != 2) = false := by simp [k2]
      cases q1 : d.kind == 1
      · repeat' first
          | refine A.allocv (d := 6) rfl rfl rfl rfl rfl ?_ | refine HCode.turn 6 rfl (Turn.freezeP rfl rfl rfl rfl) ?_
          | refine .seq ?_ | refine .rg ?_ | refine .rd ?_ | refine .block ?_ | refine .scope ?_ | refine .skip ?_ | refine .label ?_ | refine .exit ?_ | refine .ret ?_
          | refine .ct ?_ | refine .cf ?_ | refine .cy ?_ | refine .cn ?_ | (refine .cond rfl ?_ ?_ <;> intro hc)
          | refine A.nil_seq ?_ | refine .nl ?_ | refine .dd ?_ | refine .ys ?_ | refine .no ?_ | (refine A.guard rfl ?_ ?_ <;> intro hc)
          | refine .lb ?_ | refine .ln ?_ | refine .ls ?_ | refine .pv ?_ | refine .ix ?_ | refine .pt ?_ | refine .pf ?_ | refine .bx ?_ | refine .al ?_ | refine .st ?_ | refine .ad ?_ | refine .sb ?_ | refine .mf ?_ | refine .cl ?_ | refine .cw ?_ | refine .ck ?_
          | refine A.vstore (agg := true) rfl rfl rfl rfl rfl rfl rfl rfl rfl rfl rfl ?_ | fail
        refine HCode.forK f.fields.length (fun i => [(8, .int .i64 i), (6, .rptr f.enc), (5, .int .i64 j), (4, .rptr d.enc), (3, .int .i64 k), (1, .rptr s.enc)]) (fun _ => ⟨[], [.len 2, .len 2]⟩) (fun _ => True) ⟨rfl, rfl, rfl, rfl, rfl, rfl, trivial⟩ rfl trivial fun i hi _ => ?_
        by_cases h3 : i < f.fields.length
        · have d3 : decide ((i : Int) < (f.fields.length : Int)) = true := by simp [h3]
          have x3 := map_get' (f := Fld.enc) h3
          obtain ⟨b, hb0, hb1, hb2⟩ := hg f.fields[i] (List.getElem_mem h3)
          have hFi := dField s d.name f.fields[i].name (by omega)
          rw [hb1] at hFi
          have z1 := sumSize_mem (size := Fld.size) hb0
          have z2 := sumSize_mem (size := Fld.size) (List.getElem_mem h3)
          have z3 := d.sums
          have z4 := f.sums
          have z5 := b.sums
          have z6 := f.fields[i].sums
          have hS := dSub s b.t f.fields[i].t (by omega) (by omega) (by omega)
          rw [hb2] at hS
          repeat' first
            | refine A.allocv (d := 9) rfl rfl rfl rfl rfl ?_ | refine HCode.turn 9 rfl (Turn.freezeP rfl rfl rfl rfl) ?_
            | refine .seq ?_ | refine .rg ?_ | refine .rd ?_ | refine .block ?_ | refine .scope ?_ | refine .skip ?_ | refine .label ?_ | refine .exit ?_ | refine .ret ?_
            | refine .ct ?_ | refine .cf ?_ | refine .cy ?_ | refine .cn ?_ | (refine .cond rfl ?_ ?_ <;> intro hc)
            | refine A.nil_seq ?_ | refine .nl ?_ | refine .dd ?_ | refine .ys ?_ | refine .no ?_ | (refine A.guard rfl ?_ ?_ <;> intro hc)
            | refine .lb ?_ | refine .ln ?_ | refine .ls ?_ | refine .pv ?_ | refine .ix ?_ | refine .pt ?_ | refine .pf ?_ | refine .bx ?_ | refine .al ?_ | refine .st ?_ | refine .ad ?_ | refine .sb ?_ | refine .mf ?_ | refine .cl ?_ | refine .cw ?_ | refine .ck ?_
            | refine A.vstore (agg := true) rfl rfl rfl rfl rfl rfl rfl rfl rfl rfl rfl ?_ | fail
          exact ⟨h3, ⟨rfl, rfl, rfl, rfl, rfl, rfl, trivial⟩, by simp [belowS, AV.low, AV.low_of_closed, Sch.closed, Dfn.closed], rfl, rfl, trivial⟩
        · have d3 : decide ((i : Int) < (f.fields.length : Int)) = false := by simp; omega
          repeat' first
            | refine .seq ?_ | refine .rg ?_ | refine .rd ?_ | refine .block ?_ | refine .scope ?_ | refine .skip ?_ | refine .label ?_ | refine .exit ?_ | refine .ret ?_
            | refine .ct ?_ | refine .cf ?_ | refine .cy ?_ | refine .cn ?_ | (refine .cond rfl ?_ ?_ <;> intro hc)
            | refine A.nil_seq ?_ | refine .nl ?_ | refine .dd ?_ | refine .ys ?_ | refine .no ?_ | (refine A.guard rfl ?_ ?_ <;> intro hc)
            | refine .lb ?_ | refine .ln ?_ | refine .ls ?_ | refine .pv ?_ | refine .ix ?_ | refine .pt ?_ | refine .pf ?_ | refine .bx ?_ | refine .al ?_ | refine .st ?_ | refine .ad ?_ | refine .sb ?_ | refine .mf ?_ | refine .cl ?_ | refine .cw ?_ | refine .ck ?_ | fail
          exact ⟨h2, ⟨rfl, rfl, rfl, rfl, trivial⟩, by simp [belowS, AV.low, AV.low_of_closed, Sch.closed, Dfn.closed], rfl, rfl, trivial⟩
      · rw [hm (by simpa using q1)] at hM
        repeat' first
          | refine A.allocv (d := 6) rfl rfl rfl rfl rfl ?_ | refine HCode.turn 6 rfl (Turn.freezeP rfl rfl rfl rfl) ?_
          | refine .seq ?_ | refine .rg ?_ | refine .rd ?_ | refine .block ?_ | refine .scope ?_ | refine .skip ?_ | refine .label ?_ | refine .exit ?_ | refine .ret ?_
          | refine .ct ?_ | refine .cf ?_ | refine .cy ?_ | refine .cn ?_ | (refine .cond rfl ?_ ?_ <;> intro hc)
          | refine A.nil_seq ?_ | refine .nl ?_ | refine .dd ?_ | refine .ys ?_ | refine .no ?_ | (refine A.guard rfl ?_ ?_ <;> intro hc)
          | refine .lb ?_ | refine .ln ?_ | refine .ls ?_ | refine .pv ?_ | refine .ix ?_ | refine .pt ?_ | refine .pf ?_ | refine .bx ?_ | refine .al ?_ | refine .st ?_ | refine .ad ?_ | refine .sb ?_ | refine .mf ?_ | refine .cl ?_ | refine .cw ?_ | refine .ck ?_
          | refine A.vstore (agg := true) rfl rfl rfl rfl rfl rfl rfl rfl rfl rfl rfl ?_ | fail
        refine HCode.forK f.fields.length (fun i => [(8, .int .i64 i), (6, .rptr f.enc), (5, .int .i64 j), (4, .rptr d.enc), (3, .int .i64 k), (1, .rptr s.enc)]) (fun _ => ⟨[], [.len 2, .len 2]⟩) (fun _ => True) ⟨rfl, rfl, rfl, rfl, rfl, rfl, trivial⟩ rfl trivial fun i hi _ => ?_
        by_cases h3 : i < f.fields.length
        · have d3 : decide ((i : Int) < (f.fields.length : Int)) = true := by simp [h3]
          have x3 := map_get' (f := Fld.enc) h3
          obtain ⟨b, hb0, hb1, hb2⟩ := hg f.fields[i] (List.getElem_mem h3)
          have hFi := dField s d.name f.fields[i].name (by omega)
          rw [hb1] at hFi
          have z1 := sumSize_mem (size := Fld.size) hb0
          have z2 := sumSize_mem (size := Fld.size) (List.getElem_mem h3)
          have z3 := d.sums
          have z4 := f.sums
          have z5 := b.sums
          have z6 := f.fields[i].sums
          have hS := dSub s b.t f.fields[i].t (by omega) (by omega) (by omega)
          rw [hb2] at hS
          repeat' first
            | refine A.allocv (d := 9) rfl rfl rfl rfl rfl ?_ | refine HCode.turn 9 rfl (Turn.freezeP rfl rfl rfl rfl) ?_
            | refine .seq ?_ | refine .rg ?_ | refine .rd ?_ | refine .block ?_ | refine .scope ?_ | refine .skip ?_ | refine .label ?_ | refine .exit ?_ | refine .ret ?_
            | refine .ct ?_ | refine .cf ?_ | refine .cy ?_ | refine .cn ?_ | (refine .cond rfl ?_ ?_ <;> intro hc)
            | refine A.nil_seq ?_ | refine .nl ?_ | refine .dd ?_ | refine .ys ?_ | refine .no ?_ | (refine A.guard rfl ?_ ?_ <;> intro hc)
            | refine .lb ?_ | refine .ln ?_ | refine .ls ?_ | refine .pv ?_ | refine .ix ?_ | refine .pt ?_ | refine .pf ?_ | refine .bx ?_ | refine .al ?_ | refine .st ?_ | refine .ad ?_ | refine .sb ?_ | refine .mf ?_ | refine .cl ?_ | refine .cw ?_ | refine .ck ?_
            | refine A.vstore (agg := true) rfl rfl rfl rfl rfl rfl rfl rfl rfl rfl rfl ?_ | fail
          exact ⟨h3, ⟨rfl, rfl, rfl, rfl, rfl, rfl, trivial⟩, by simp [belowS, AV.low, AV.low_of_closed, Sch.closed, Dfn.closed], rfl, rfl, trivial⟩
        · have d3 : decide ((i : Int) < (f.fields.length : Int)) = false := by simp; omega
          repeat' first
            | refine .seq ?_ | refine .rg ?_ | refine .rd ?_ | refine .block ?_ | refine .scope ?_ | refine .skip ?_ | refine .label ?_ | refine .exit ?_ | refine .ret ?_
            | refine .ct ?_ | refine .cf ?_ | refine .cy ?_ | refine .cn ?_ | (refine .cond rfl ?_ ?_ <;> intro hc)
            | refine A.nil_seq ?_ | refine .nl ?_ | refine .dd ?_ | refine .ys ?_ | refine .no ?_ | (refine A.guard rfl ?_ ?_ <;> intro hc)
            | refine .lb ?_ | refine .ln ?_ | refine .ls ?_ | refine .pv ?_ | refine .ix ?_ | refine .pt ?_ | refine .pf ?_ | refine .bx ?_ | refine .al ?_ | refine .st ?_ | refine .ad ?_ | refine .sb ?_ | refine .mf ?_ | refine .cl ?_ | refine .cw ?_ | refine .ck ?_ | fail
          exact ⟨h2, ⟨rfl, rfl, rfl, rfl, trivial⟩, by simp [belowS, AV.low, AV.low_of_closed, Sch.closed, Dfn.closed], rfl, rfl, trivial⟩
    · have d2 : decide ((j : Int) < (d.faces.length : Int)) = false := by simp; omega
      repeat' first
        | refine .seq ?_ | refine .rg ?_ | refine .rd ?_ | refine .block ?_ | refine .scope ?_ | refine .skip ?_ | refine .label ?_ | refine .exit ?_ | refine .ret ?_
        | refine .ct ?_ | refine .cf ?_ | refine .cy ?_ | refine .cn ?_ | (refine .cond rfl ?_ ?_ <;> intro hc)
        | refine A.nil_seq ?_ | refine .nl ?_ | refine .dd ?_ | refine .ys ?_ | refine .no ?_ | (refine A.guard rfl ?_ ?_ <;> intro hc)
        | refine .lb ?_ | refine .ln ?_ | refine .ls ?_ | refine .pv ?_ | refine .ix ?_ | refine .pt ?_ | refine .pf ?_ | refine .bx ?_ | refine .al ?_ | refine .st ?_ | refine .ad ?_ | refine .sb ?_ | refine .mf ?_ | refine .cl ?_ | refine .cw ?_ | refine .ck ?_ | fail
      exact ⟨h1, ⟨rfl, rfl, trivial⟩, by simp [belowS, AV.low, AV.low_of_closed, Sch.closed], rfl, rfl, trivial⟩
  · have d1 : decide ((k : Int) < (s.defs.length : Int)) = false := by simp; omega
    repeat' first
      | refine .seq ?_ | refine .rg ?_ | refine .rd ?_ | refine .block ?_ | refine .scope ?_ | refine .skip ?_ | refine .label ?_ | refine .exit ?_ | refine .ret ?_
      | refine .ct ?_ | refine .cf ?_ | refine .cy ?_ | refine .cn ?_ | (refine .cond rfl ?_ ?_ <;> intro hc)
      | refine A.nil_seq ?_ | refine .nl ?_ | refine .dd ?_ | refine .ys ?_ | refine .no ?_ | (refine A.guard rfl ?_ ?_ <;> intro hc)
      | refine .lb ?_ | refine .ln ?_ | refine .ls ?_ | refine .pv ?_ | refine .ix ?_ | refine .pt ?_ | refine .pf ?_ | refine .bx ?_ | refine .al ?_ | refine .st ?_ | refine .ad ?_ | refine .sb ?_ | refine .mf ?_ | refine .cl ?_ | refine .cw ?_ | refine .ck ?_ | fail
    exact Fin.ret1 rfl (Weak.refl _)
end Go.Proofs.YtegakkonlhmeaaaGreatDoor
