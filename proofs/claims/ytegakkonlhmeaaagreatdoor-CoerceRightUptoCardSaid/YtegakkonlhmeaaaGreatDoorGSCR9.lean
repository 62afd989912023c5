/-
  Contracts and plain facts for a law, joined.
-/
import Derived.Test.YtegakkonlhmeaaaGreatDoorGSCR6
import Derived.Test.YtegakkonlhmeaaaGreatDoorGSCR8
import Derived.Test.YtegakkonlhmeaaaGreatDoorGSCR2
import Derived.Test.YtegakkonlhmeaaaGreatDoorGSCR4
import Derived.Test.YtegakkonlhmeaaaGreatDoorAvRen4
set_option maxRecDepth 100000
set_option maxHeartbeats 16000000
set_option linter.unusedVariables false
set_option linter.unusedSimpArgs false
set_option linter.unusedSectionVars false
namespace Go.Proofs.YtegakkonlhmeaaaGreatDoor
open Go Go.Av
mutual
def novarV : Val → Bool
  | .mk k _ _ l m => if k = 8 then false else if k = 6 then novarL l else if k = 7 then novarM m else true
def novarL : List Val → Bool
  | [] => true
  | v :: l => novarV v && novarL l
def novarM : List Mem → Bool
  | [] => true
  | .mk _ v :: m => novarV v && novarM m
end
theorem addNew_nil {l : List Str} {x : Str} : addNew l x ≠ [] := by
  unfold addNew
  split
  · rename_i h; exact List.ne_nil_of_mem h
  · simp
mutual
theorem novar_vars : ∀ (v : Val) (acc : List Str), varsV v acc = [] ↔ acc = [] ∧ novarV v = true
  | .mk k n str l m, acc => by
    rw [varsV, novarV]
    by_cases h8 : k = 8
    · rw [if_pos h8, if_pos h8]
      exact ⟨fun h => absurd h addNew_nil, fun h => by cases h.2⟩
    · rw [if_neg h8, if_neg h8]
      by_cases h6 : k = 6
      · rw [if_pos h6, if_pos h6]; exact novar_varsL l acc
      · rw [if_neg h6, if_neg h6]
        by_cases h7 : k = 7
        · rw [if_pos h7, if_pos h7]; exact novar_varsM m acc
        · rw [if_neg h7, if_neg h7]; simp
theorem novar_varsL : ∀ (l : List Val) (acc : List Str), varsL l acc = [] ↔ acc = [] ∧ novarL l = true
  | [], acc => by rw [varsL, novarL]; simp
  | v :: l, acc => by rw [varsL, novarL, novar_varsL l, novar_vars v, Bool.and_eq_true, and_assoc]
theorem novar_varsM : ∀ (m : List Mem) (acc : List Str), varsM m acc = [] ↔ acc = [] ∧ novarM m = true
  | [], acc => by rw [varsM, novarM]; simp
  | .mk nm v :: m, acc => by rw [varsM, novarM, novar_varsM m, novar_vars v, Bool.and_eq_true, and_assoc]
end
theorem novarM_mem : ∀ {m : List Mem}, novarM m = true → ∀ x ∈ m, novarV x.v = true
  | [], _, x, hx => by cases hx
  | .mk nm v :: m, h, x, hx => by
    rw [novarM, Bool.and_eq_true] at h
    rcases List.mem_cons.1 hx with rfl | hx
    · exact h.1
    · exact novarM_mem h.2 x hx
mutual
def twiceV : Val → Bool
  | .mk _ _ _ l m => twiceL l || twiceM m []
def twiceL : List Val → Bool
  | [] => false
  | v :: l => twiceV v || twiceL l
def twiceM : List Mem → List Str → Bool
  | [], _ => false
  | .mk nm v :: m, seen => (decide (nm ∈ seen) || twiceV v) || twiceM m (seen ++ [nm])
end
theorem twiceM_mem : ∀ {m : List Mem} {seen : List Str}, twiceM m seen = false → (∀ x ∈ m, x.name ∉ seen) ∧ (m.map Mem.name).Nodup ∧ ∀ x ∈ m, twiceV x.v = false
  | [], _, _ => ⟨by simp, by simp, by simp⟩
  | .mk nm v :: m, seen, h => by
    rw [twiceM, Bool.or_eq_false_iff, Bool.or_eq_false_iff, decide_eq_false_iff_not] at h
    obtain ⟨⟨h1, h2⟩, h3⟩ := h
    obtain ⟨a1, a2, a3⟩ := twiceM_mem h3
    refine ⟨fun x hx => ?_, ?_, fun x hx => ?_⟩
    · rcases List.mem_cons.1 hx with rfl | hx
      · exact h1
      · exact fun hs => a1 x hx (List.mem_append_left _ hs)
    · rw [List.map_cons, List.nodup_cons]
      refine ⟨fun hm => ?_, a2⟩
      obtain ⟨x, hx, e⟩ := List.mem_map.1 hm
      exact a1 x hx (by rw [e]; exact List.mem_append_right _ (List.mem_singleton.2 rfl))
    · rcases List.mem_cons.1 hx with rfl | hx
      · exact h2
      · exact a3 x hx
theorem allM_mem {g : Str → Bool} : ∀ {m : List Mem}, allM g m = true → ∀ x ∈ m, g x.name = true ∧ allV g x.v = true
  | [], _, x, hx => by cases hx
  | .mk nm v :: m, h, x, hx => by
    rw [allM, Bool.and_eq_true, Bool.and_eq_true] at h
    rcases List.mem_cons.1 hx with rfl | hx
    · exact h.1
    · exact allM_mem h.2 x hx
def mfOf (s : Sch) (wr : Bool) (env : List Mem) (dfl : Par → VE) (x : Mem) : MF := (x.name, x.v, fun t => if rightT t = true ∧ allV good x.v = true then mkV s wr env dfl x.v t else (val0, 1))
theorem mkM_map (s : Sch) (wr : Bool) (env : List Mem) (dfl : Par → VE) : ∀ m : List Mem, mkM s wr env dfl m = m.map (mfOf s wr env dfl)
  | [] => by rw [mkM]; rfl
  | .mk nm v :: m => by rw [mkM, mkM_map s wr env dfl m]; rfl
theorem firstF_map (s : Sch) (wr : Bool) (env : List Mem) (dfl : Par → VE) (name : Str) : ∀ m : List Mem, firstF (m.map (mfOf s wr env dfl)) name = (m.find? fun x => x.name == name).map (mfOf s wr env dfl)
  | [] => rfl
  | x :: m => by
    have ih := firstF_map s wr env dfl name m
    unfold firstF at ih ⊢
    rw [List.map_cons, List.find?_cons, List.find?_cons]
    have : ((mfOf s wr env dfl x).1 == name) = (x.name == name) := rfl
    rw [this]
    cases x.name == name
    · exact ih
    · rfl
theorem memsMk_zero {s : Sch} {wr within : Bool} {env : List Mem} {dfl : Par → VE} {fs : List MF} : ∀ {ps : List Par}, (memsMk s wr within env dfl fs ps).2 = 0 ↔ ∀ p ∈ ps, (memMk s wr within env dfl fs p).2.2 = 0
  | [] => by simp [memsMk]
  | p :: ps => by
    have ih := memsMk_zero (s := s) (wr := wr) (within := within) (env := env) (dfl := dfl) (fs := fs) (ps := ps)
    unfold memsMk
    dsimp only
    rw [List.forall_mem_cons, ← ih]
    by_cases h1 : (memMk s wr within env dfl fs p).2.2 = 0
    · rw [if_neg (by simpa using h1)]
      by_cases h2 : (memsMk s wr within env dfl fs ps).2 = 0
      · rw [if_neg (by simpa using h2)]; simp [h1, h2]
      · rw [if_pos h2]; simp [h1, h2]
    · rw [if_pos h1]; simp [h1]
theorem find_nodup {m : List Mem} {x : Mem} (hn : (m.map Mem.name).Nodup) (hx : x ∈ m) : m.find? (fun y => y.name == x.name) = some x := by
  induction m with
  | nil => simp at hx
  | cons y m ih =>
    rw [List.map_cons, List.nodup_cons] at hn
    rw [List.find?_cons]
    rcases List.mem_cons.1 hx with rfl | hx
    · simp
    · have : (y.name == x.name) = false := by
        rw [beq_eq_false_iff_ne]
        intro e
        exact hn.1 (List.mem_map.2 ⟨x, hx, e.symm⟩)
      rw [this]
      exact ih hn.2 hx
theorem parO_nodup {ps : List Par} {p : Par} (hn : (ps.map Par.name).Nodup) (hp : p ∈ ps) : parO ps p.name = some p := by
  unfold parO
  induction ps with
  | nil => simp at hp
  | cons y m ih =>
    rw [List.map_cons, List.nodup_cons] at hn
    rw [List.find?_cons]
    rcases List.mem_cons.1 hp with rfl | hp
    · simp
    · have : (y.name == p.name) = false := by
        rw [beq_eq_false_iff_ne]
        intro e
        exact hn.1 (List.mem_map.2 ⟨p, hp, e.symm⟩)
      rw [this]
      exact ih hn.2 hp
theorem parO_mem {ps : List Par} {n : Str} {p : Par} (h : parO ps n = some p) : p ∈ ps ∧ p.name = n := ⟨List.mem_of_find?_eq_some h, by simpa using List.find?_some h⟩
theorem fitsM_iff {s : Sch} {ps : List Par} : ∀ {m : List Mem} {seen : List Str}, (∀ x ∈ m, x.name ∉ seen) → (m.map Mem.name).Nodup → (fitsM s ps m seen = true ↔ ∀ x ∈ m, ∃ p, parO ps x.name = some p ∧ fitsV s x.v p.t false = true)
  | [], seen, _, _ => by rw [fitsM]; simp
  | .mk nm v :: m, seen, h1, h2 => by
    rw [List.map_cons, List.nodup_cons] at h2
    have ih := fitsM_iff (s := s) (ps := ps) (m := m) (seen := seen ++ [nm]) (fun x hx hs => by
      rcases List.mem_append.1 hs with hs | hs
      · exact h1 x (List.mem_cons_of_mem _ hx) hs
      · exact h2.1 (List.mem_map.2 ⟨x, hx, List.mem_singleton.1 hs⟩)) h2.2
    have hn : nm ∉ seen := h1 _ (List.mem_cons_self ..)
    rw [fitsM, List.forall_mem_cons, Bool.and_eq_true, Bool.and_eq_true, ih]
    have e : (!decide (nm ∈ seen)) = true := by simp [hn]
    rw [e]
    cases ep : parO ps nm with
    | none =>
      constructor
      · intro h; exact absurd h.1 (by simp)
      · rintro ⟨⟨p, hp, _⟩, _⟩
        rw [show (Mem.mk nm v).name = nm from rfl, ep] at hp; cases hp
    | some p =>
      constructor
      · rintro ⟨a, _, b⟩; exact ⟨⟨p, ep, a⟩, b⟩
      · rintro ⟨⟨q, hq, a⟩, b⟩
        rw [show (Mem.mk nm v).name = nm from rfl, ep] at hq
        cases hq; exact ⟨a, rfl, b⟩
theorem needsB_iff {m : List Mem} : ∀ {ps : List Par}, needsB m ps = true ↔ ∀ p ∈ ps, (∃ x ∈ m, x.name = p.name) ∨ reqB p = false
  | [] => by rw [needsB]; simp
  | p :: ps => by
    rw [needsB, List.forall_mem_cons, Bool.and_eq_true, needsB_iff, Bool.or_eq_true, List.any_eq_true]
    simp
theorem sound_params {s : Sch} (h : checkI s = 0) {d : Dfn} (hd : d ∈ s.defs) : (d.params.map Par.name).Nodup ∧ ∀ p ∈ d.params, nameB p.name = true ∧ rightT p.t = true ∧ entryB s p.t.name = true ∧
    (p.has = true → leafB s p.t.name = true ∧ litR s p.t p.d = true ∧ novarV p.d = true) := by
  obtain ⟨h1, _, h3, h4, _, _, _, _, h9⟩ := check_zero.1 h
  refine ⟨(good_own (single_fields h3 hd).2.1).1, fun p hp => ?_⟩
  have t := every_iff.1 h4 d hd
  have u := every_iff.1 h9 d hd
  unfold typed1 entriesB at t
  unfold dflts1 rightB at u
  simp only [Bool.and_eq_true, Bool.not_eq_true', List.any_eq_false, Bool.or_eq_true, Bool.not_eq_true, not_or, Bool.not_eq_false', not_and] at t u
  have hpk := List.all_eq_true.1 (dfnOk_params (sdl_dfn (named_iff.1 h1).1 hd)).2 p hp
  unfold parOk at hpk
  simp only [Bool.and_eq_true] at hpk
  obtain ⟨a1, a2, a3⟩ := hpk
  refine ⟨a1, a2, by have := t.1 p hp; simpa using this, fun hh => ⟨by have := u.2.1 p hp; simpa [hh] using this, by have := u.1 p hp; simpa [hh] using this, ?_⟩⟩
  unfold dfltOk valFix at a3
  rw [if_pos hh, Bool.and_eq_true, decide_eq_true_eq] at a3
  exact ((novar_vars p.d []).1 a3.2).2
theorem entry_kind {s : Sch} {n : Str} (h : entryB s n = true) : ∃ d, findO s n = some d ∧ (d.kind = 0 ∨ d.kind = 4 ∨ d.kind = 5) := by
  unfold entryB kindB findR at h
  cases e : findO s n with
  | none => rw [e] at h; simp at h
  | some d => rw [e] at h; exact ⟨d, rfl, by simpa using h⟩
theorem kind_scalar {s : Sch} (h : namedB s = true) {n : Str} {d : Dfn} (hf : findO s n = some d) (hk : d.kind = 0) : scalarB n = true := by
  unfold findO at hf
  split at hf
  · assumption
  · have hd := List.mem_of_find?_eq_some hf
    have := sdl_dfn (named_iff.1 h).1 hd
    unfold dfnOk at this
    rw [hk] at this
    simp at this
theorem scal_iff {n : Str} (h : scalarB n = true) (v : Val) : (scalMk n v).2 = 0 ↔ scalFit n v.kind v.n = true := by
  unfold scalarB at h
  simp only [Bool.or_eq_true, beq_iff_eq] at h
  have d1 : sInt ≠ sString := by decide
  have d2 : sInt ≠ sBoolean := by decide
  have d3 : sInt ≠ sID := by decide
  have d4 : sString ≠ sBoolean := by decide
  have d5 : sString ≠ sID := by decide
  have d6 : sBoolean ≠ sID := by decide
  unfold scalMk scalFit
  rcases h with ((rfl | rfl) | rfl) | rfl
  · by_cases k2 : v.kind = 2
    · by_cases hr : v.n < -2147483648 ∨ 2147483647 < v.n
      · simp [k2, hr, d1, d2, d3]; omega
      · have : -2147483648 ≤ v.n ∧ v.n ≤ 2147483647 := by omega
        simp [k2, hr, d1, d2, d3, this]
    · simp [k2, d1, d2, d3]
  · simp only [d1.symm, d4, d5, false_and, if_false, true_or, true_and, false_or, or_false]
    by_cases k : v.kind = 4 <;> simp [k, d1.symm]
  · simp only [d2.symm, d4.symm, d6, false_and, if_false, true_and, false_or, or_false]
    by_cases k : v.kind = 1 <;> simp [k, d2.symm, d4.symm]
  · simp only [d3.symm, d5.symm, d6.symm, false_and, if_false, true_and, false_or, or_true]
    by_cases k : v.kind = 2
    · simp [k, d3.symm, d5.symm, d6.symm]
    · by_cases k4 : v.kind = 4 <;> simp [k, k4, d3.symm, d5.symm, d6.symm]
def LeafOr (s : Sch) (dfl : Par → VE) (n : Str) (tw : Bool) : Prop := leafB s n = true ∨ (tw = false ∧ ∀ d ∈ s.defs, ∀ p ∈ d.params, p.has = true → leafB s p.t.name = true → (dfl p).2 = 0)
theorem input_iff {s : Sch} (h : checkI s = 0) {dfl : Par → VE} {d : Dfn} (hd : d ∈ s.defs) {m : List Mem} (htw : twiceM m [] = false) (hdf : ∀ d ∈ s.defs, ∀ p ∈ d.params, p.has = true → leafB s p.t.name = true → (dfl p).2 = 0)
    (hv : novarM m = true) (hg : allM good m = true) (hM : ∀ x ∈ m, ∀ t : Typ, rightT t = true → entryB s t.name = true → LeafOr s dfl t.name (twiceV x.v) → ((mkV s true [] dfl x.v t).2 = 0 ↔ fitsV s x.v t false = true)) :
    (inputMk s true [] dfl (mkM s true [] dfl m) d).2 = 0 ↔ (fitsM s d.params m [] && needsB m d.params) = true := by
  obtain ⟨s1, s2⟩ := sound_params h hd
  obtain ⟨_, t2, t3⟩ := twiceM_mem htw
  have hst : strange true [] (mkM s true [] dfl m) d.params = true ↔ ∃ x ∈ m, parO d.params x.name = none := by
    unfold strange
    rw [mkM_map, List.any_eq_true]
    constructor
    · rintro ⟨f, hf, e⟩
      obtain ⟨x, hx, rfl⟩ := List.mem_map.1 hf
      rw [Bool.and_eq_true] at e
      exact ⟨x, hx, Option.isNone_iff_eq_none.1 e.1⟩
    · rintro ⟨x, hx, e⟩
      refine ⟨_, List.mem_map.2 ⟨x, hx, rfl⟩, ?_⟩
      have e1 : (mfOf s true [] dfl x).1 = x.name := rfl
      rw [e1, e, firstF_map, find_nodup t2 hx]
      have h8 : x.v.kind ≠ 8 := by
        have := novarM_mem hv x hx
        intro k8
        cases hxv : x.v with
        | mk k n str l mm =>
          rw [hxv] at this k8
          have k8' : k = 8 := k8
          rw [novarV, if_pos k8'] at this; cases this
      simp [thereB, mfOf, h8]
  have hmem : ∀ p ∈ d.params, ((memMk s true true [] dfl (mkM s true [] dfl m) p).2.2 = 0 ↔ (∃ x ∈ m, x.name = p.name ∧ fitsV s x.v p.t false = true) ∨ ((¬ ∃ x ∈ m, x.name = p.name) ∧ reqB p = false)) := fun p hp => by
    obtain ⟨b1, b2, b3, b4⟩ := s2 p hp
    unfold memMk
    rw [mkM_map, firstF_map]
    cases hfx : m.find? (fun x => x.name == p.name) with
    | some x =>
      have hx := List.mem_of_find?_eq_some hfx
      have hxn : x.name = p.name := by simpa using List.find?_some hfx
      have h8 : x.v.kind ≠ 8 := by
        have := novarM_mem hv x hx
        intro k8
        cases hxv : x.v with
        | mk k n str l mm =>
          rw [hxv] at this k8
          have k8' : k = 8 := k8
          rw [novarV, if_pos k8'] at this; cases this
      have ht : thereB true [] (mfOf s true [] dfl x).2.1 = true := by simp [thereB, mfOf, h8]
      simp only [Option.map_some, Option.bind_some]
      rw [if_pos ht]
      have hgx := (allM_mem hg x hx).2
      have e2 : (mfOf s true [] dfl x).2.2 p.t = mkV s true [] dfl x.v p.t := by show (if _ then _ else _) = _; rw [if_pos ⟨b2, hgx⟩]
      simp only [e2]
      rw [hM x hx p.t b2 b3 (.inr ⟨t3 x hx, hdf⟩)]
      constructor
      · exact fun hfit => .inl ⟨x, hx, hxn, hfit⟩
      · rintro (⟨y, hy, hyn, hfit⟩ | ⟨hno, _⟩)
        · have e3 := find_nodup t2 hy
          rw [hyn, hfx] at e3
          cases e3; exact hfit
        · exact absurd ⟨x, hx, hxn⟩ hno
    | none =>
      have hno : ¬ ∃ x ∈ m, x.name = p.name := by
        rintro ⟨x, hx, e⟩
        have := List.find?_eq_none.1 hfx x hx
        simp [e] at this
      simp only [Option.map_none, Option.bind_none]
      have hno2 : ¬ ∃ x ∈ m, x.name = p.name ∧ fitsV s x.v p.t false = true := fun ⟨x, hx, e, _⟩ => hno ⟨x, hx, e⟩
      unfold reqB
      by_cases hh : p.has = true
      · have c2 := (b4 hh).1
        rw [if_pos ⟨hh, .inr c2⟩]
        have := hdf d hd p hp hh c2
        simp [this, hno, hh]
      · rw [if_neg (fun c => hh c.1)]
        by_cases hi : isT p.t = true
        · rw [if_pos hi]; simp [hi, hh]
          exact fun x hx e => Bool.eq_false_iff.2 fun hf => hno2 ⟨x, hx, e, hf⟩
        · rw [if_neg hi]; simp [hi]
          exact .inr fun x hx e => hno ⟨x, hx, e⟩
  have hL : (inputMk s true [] dfl (mkM s true [] dfl m) d).2 = 0 ↔ (∀ x ∈ m, parO d.params x.name ≠ none) ∧ ∀ p ∈ d.params, (memMk s true true [] dfl (mkM s true [] dfl m) p).2.2 = 0 := by
    unfold inputMk
    rw [← memsMk_zero]
    by_cases hs : strange true [] (mkM s true [] dfl m) d.params = true
    · rw [if_pos hs]
      obtain ⟨x, hx, e⟩ := hst.1 hs
      constructor
      · intro e6; cases e6
      · intro hall; exact absurd e (hall.1 x hx)
    · rw [if_neg hs]
      have : ∀ x ∈ m, parO d.params x.name ≠ none := fun x hx e => hs (hst.2 ⟨x, hx, e⟩)
      dsimp only
      by_cases h2 : (memsMk s true true [] dfl (mkM s true [] dfl m) d.params).2 = 0
      · rw [if_neg (by simpa using h2)]; simp [h2]; exact fun x hx => this x hx
      · rw [if_pos h2]; simp [h2]
  rw [hL, Bool.and_eq_true, fitsM_iff (by simp) t2, needsB_iff]
  constructor
  · rintro ⟨a1, a2⟩
    refine ⟨fun x hx => ?_, fun p hp => ?_⟩
    · cases ep : parO d.params x.name with
      | none => exact absurd ep (a1 x hx)
      | some p =>
        obtain ⟨hp, hpn⟩ := parO_mem ep
        refine ⟨p, rfl, ?_⟩
        rcases (hmem p hp).1 (a2 p hp) with ⟨y, hy, hyn, hfit⟩ | ⟨hno, _⟩
        · have e3 := find_nodup t2 hy
          have e4 := find_nodup t2 hx
          rw [hyn, hpn, e4] at e3
          cases e3; exact hfit
        · exact absurd ⟨x, hx, hpn.symm⟩ hno
    · rcases (hmem p hp).1 (a2 p hp) with ⟨y, hy, hyn, _⟩ | ⟨_, hr⟩
      · exact .inl ⟨y, hy, hyn⟩
      · exact .inr hr
  · rintro ⟨a1, a2⟩
    refine ⟨fun x hx e => ?_, fun p hp => (hmem p hp).2 ?_⟩
    · obtain ⟨p, e2, _⟩ := a1 x hx
      rw [e] at e2; cases e2
    · by_cases hex : ∃ x ∈ m, x.name = p.name
      · obtain ⟨x, hx, e⟩ := hex
        obtain ⟨q, e2, hfit⟩ := a1 x hx
        rw [e, parO_nodup s1 hp] at e2
        cases e2
        exact .inl ⟨x, hx, e, hfit⟩
      · exact .inr ⟨hex, (a2 p hp).resolve_left hex⟩
theorem base_iff {s : Sch} (h : checkI s = 0) {dfl : Par → VE} {n : Str} {v : Val} (he : entryB s n = true) (hl : LeafOr s dfl n (twiceM v.m []))
    (hv : v.kind = 7 → novarM v.m = true ∧ allM good v.m = true) (hM : ∀ x ∈ v.m, ∀ t : Typ, novarM v.m = true → allM good v.m = true → rightT t = true → entryB s t.name = true → LeafOr s dfl t.name (twiceV x.v) → ((mkV s true [] dfl x.v t).2 = 0 ↔ fitsV s x.v t false = true)) :
    (baseMk s true [] dfl n v (mkM s true [] dfl v.m)).2 = 0 ↔ bareV s n v = true := by
  obtain ⟨d, hf, hk⟩ := entry_kind he
  have h1 := (check_zero.1 h).1
  unfold baseMk bareV bareB
  rw [hf]
  dsimp only
  rcases hk with k0 | k4 | k5
  · have n4 : ¬ d.kind = 4 := by omega
    have n5 : ¬ d.kind = 5 := by omega
    simp only [if_pos k0, if_neg n4, if_neg n5]
    exact scal_iff (kind_scalar h1 hf k0) v
  · have n0 : ¬ d.kind = 0 := by omega
    simp only [if_pos k4, if_neg n0]
    unfold enumMk
    simp only [if_true]
    by_cases c : v.kind = 5 ∧ v.s ∈ d.parts
    · rw [if_pos c]; simp [c]
    · rw [if_neg c]
      simp
      intro e hm; exact c ⟨e, hm⟩
  · have n0 : ¬ d.kind = 0 := by omega
    have n4 : ¬ d.kind = 4 := by omega
    simp only [if_neg n0, if_neg n4, if_pos k5]
    by_cases k7 : v.kind = 7
    · have hnl : ¬ leafB s n = true := by
        unfold leafB kindB findR
        rw [hf]; simp [k5]
      obtain ⟨tw, hdf⟩ := hl.resolve_left hnl
      obtain ⟨v1, v2⟩ := hv k7
      rw [if_pos k7, input_iff h (find_named hf (by omega)).1 tw hdf v1 v2 (fun x hx t => hM x hx t v1 v2)]
      simp [k7]
    · rw [if_neg k7]; simp [k7]
theorem wrapR_zero {n : Nat} {r : VE} : (wrapR n r).2 = 0 ↔ r.2 = 0 := by
  unfold wrapR
  by_cases c : r.2 = 0
  · rw [if_pos c]; simp [c]
  · rw [if_neg c]
theorem LeafOr.weak {s : Sch} {dfl : Par → VE} {n : Str} {a b : Bool} (h : LeafOr s dfl n a) (hab : a = false → b = false) : LeafOr s dfl n b := h.imp id fun ⟨x, y⟩ => ⟨hab x, y⟩
section
variable (s : Sch) (dfl : Par → VE) (h : checkI s = 0)
include h
mutual
theorem right_V : ∀ (v : Val) (t : Typ), rightT t = true → entryB s t.name = true → novarV v = true → allV good v = true → LeafOr s dfl t.name (twiceV v) → ((mkV s true [] dfl v t).2 = 0 ↔ fitsV s v t false = true)
  | .mk k n str l m, t, hr, he, hv, hg, hl => by
    have hM := right_M m
    have hL := right_L l
    rw [novarV] at hv
    rw [allV] at hg
    have k8 : k ≠ 8 := by rintro rfl; simp at hv
    rw [if_neg k8] at hv
    rw [mkV_eq, if_neg (fun c => k8 c.2), fitsV_eq, if_neg (show ¬ (Val.mk k n str l m).kind = 8 from k8), hr]
    have ek : (Val.mk k n str l m).kind = k := rfl
    have el : (Val.mk k n str l m).l = l := rfl
    have em : (Val.mk k n str l m).m = m := rfl
    rw [ek, el, em]
    by_cases k0 : k = 0
    · rw [if_pos k0, if_pos k0]
      cases isT t <;> simp
    rw [if_neg k0, if_neg k0]
    have hb : (baseMk s true [] dfl t.name (.mk k n str l m) (mkM s true [] dfl m)).2 = 0 ↔ bareV s t.name (.mk k n str l m) = true := by
      refine base_iff h (v := .mk k n str l m) he (hl.weak fun e => by rw [twiceV, Bool.or_eq_false_iff] at e; exact e.2) (fun k7 => ?_) (fun x hx t' a1 a2 a3 a4 a5 => hM a1 a2 x hx t' a3 a4 a5)
      have k7' : k = 7 := k7
      subst k7'
      simp at hv hg
      exact ⟨hv, hg.1⟩
    by_cases c : t.lists = 0
    · rw [if_neg (fun x => x.2 c), if_pos c, hb]; simp
    · rw [if_pos ⟨rfl, c⟩, if_neg c]
      by_cases k6 : k = 6
      · rw [if_pos k6, if_pos k6]
        rw [if_pos k6] at hv
        rw [if_pos k6, Bool.and_eq_true] at hg
        have hi := hL (itemT t) (rightT_item hr c) he hv hg.1 (hl.weak fun e => by rw [twiceV, Bool.or_eq_false_iff] at e; exact e.1)
        by_cases q : (mkL s true [] dfl l (itemT t)).2 = 0
        · rw [if_neg (by simpa using q)]; simp [hi.1 q]
        · rw [if_pos q]
          have : ¬ fitsL s l (itemT t) = true := fun x => q (hi.2 x)
          simp [q, this]
      · rw [if_neg k6, if_neg k6, wrapR_zero, hb]; simp
theorem right_L : ∀ (l : List Val) (t : Typ), rightT t = true → entryB s t.name = true → novarL l = true → allL good l = true → LeafOr s dfl t.name (twiceL l) → ((mkL s true [] dfl l t).2 = 0 ↔ fitsL s l t = true)
  | [], t, _, _, _, _, _ => by rw [mkL, fitsL]; simp
  | v :: l, t, hr, he, hv, hg, hl => by
    rw [novarL, Bool.and_eq_true] at hv
    rw [allL, Bool.and_eq_true] at hg
    have h1 := right_V v t hr he hv.1 hg.1 (hl.weak fun e => by rw [twiceL, Bool.or_eq_false_iff] at e; exact e.1)
    have h2 := right_L l t hr he hv.2 hg.2 (hl.weak fun e => by rw [twiceL, Bool.or_eq_false_iff] at e; exact e.2)
    have k8 : v.kind ≠ 8 := by
      intro k8
      cases v with
      | mk k n str l m =>
        have k8' : k = 8 := k8
        have := hv.1
        rw [novarV, if_pos k8'] at this; cases this
    rw [mkL, fitsL, fits_within, Bool.and_eq_true, Bool.and_eq_true, ← h1, ← h2]
    have ho : oddItem true t v.kind = true ↔ ¬ (decide (t.lists = 0) || (v.kind == 6 || v.kind == 8 || v.kind == 0)) = true := by
      unfold oddItem
      have := (rightT_iff.1 hr).2.1
      by_cases z : t.lists = 0
      · simp [z]
      · have : 0 < t.lists := by omega
        simp [z, this, k8]
    by_cases o : oddItem true t v.kind = true
    · rw [if_pos o]
      have := ho.1 o
      constructor
      · intro e; cases e
      · intro e; exact absurd e.1.2 this
    · rw [if_neg o]
      have o2 : (decide (t.lists = 0) || (v.kind == 6 || v.kind == 8 || v.kind == 0)) = true := Decidable.of_not_not fun x => o (ho.2 x)
      dsimp only
      by_cases q1 : (mkV s true [] dfl v t).2 = 0
      · rw [if_neg (by simpa using q1)]
        by_cases q2 : (mkL s true [] dfl l t).2 = 0
        · rw [if_neg (by simpa using q2)]; simp only [q1, q2, o2, and_self]
        · rw [if_pos q2]; simp [q1, q2]
      · rw [if_pos q1]; simp [q1]
theorem right_M : ∀ (m : List Mem), novarM m = true → allM good m = true → ∀ x ∈ m, ∀ t : Typ, rightT t = true → entryB s t.name = true → LeafOr s dfl t.name (twiceV x.v) → ((mkV s true [] dfl x.v t).2 = 0 ↔ fitsV s x.v t false = true)
  | [], _, _, x, hx, _, _, _, _ => by cases hx
  | .mk nm v :: m, hv, hg, x, hx, t, hr, he, hl => by
    rw [novarM, Bool.and_eq_true] at hv
    rw [allM, Bool.and_eq_true, Bool.and_eq_true] at hg
    rcases List.mem_cons.1 hx with e | hx
    · subst e
      exact right_V v t hr he hv.1 hg.1.2 hl
    · exact right_M m hv.2 hg.2 x hx t hr he hl
end
end
theorem dflLeaf_made {s : Sch} (h : checkI s = 0) : ∀ d ∈ s.defs, ∀ p ∈ d.params, p.has = true → leafB s p.t.name = true → (dflLeaf s p).2 = 0 := fun d hd p hp hh hlf => by
  obtain ⟨_, b2, b3, b4⟩ := (sound_params h hd).2 p hp
  obtain ⟨c1, c2, c3⟩ := b4 hh
  unfold litR at c2
  rw [Bool.and_eq_true] at c2
  unfold dflLeaf askV
  rw [if_pos ⟨b2, c2.1⟩]
  exact (right_V s junkD h p.d p.t b2 b3 c3 c2.1 (.inl hlf)).2 c2.2
theorem coe_right {s : Sch} (h : checkI s = 0) {t : Typ} {v : Val} (hr : rightT t = true) (he : entryB s t.name = true) (hv : varsV v [] = []) (htw : twiceV v = false) : ((litV s t v []).2 = 0 ↔ litR s t v = true) := by
  unfold litV askV litR
  by_cases hg : allV good v = true
  · rw [if_pos ⟨hr, hg⟩, hg, Bool.true_and]
    exact right_V s (dflLeaf s) h v t hr he ((novar_vars v []).1 hv).2 hg (.inr ⟨htw, dflLeaf_made h⟩)
  · rw [if_neg (fun c => hg c.2)]
    simp [hg]
end Go.Proofs.YtegakkonlhmeaaaGreatDoor
namespace Go.Av
open Go
section
variable [Globals]
variable {P : Program} {all : Array Oper} {draw : Bool} {K : AX → Slots → St → Prop} {rest : List Oper} {acc : List Tag} {s : Slots} {σ : St} {ty : TypeId} {pos : String} {af : Array Edge}
theorem A.max2 {d : Tmp} {x y : Operand} {tys : Array TypeId} {m n r : Int} (hx : ev? s x = some (.int .i64 m)) (hy : ev? s y = some (.int .i64 n)) (hr : (if n > m then n else m) = r)
    (k : AOps P all draw K rest (.pure :: acc) ((d, .int .i64 r) :: s) σ) : AOps P all draw K (⟨some d, .call ⟨.builtin .max, #[x, y], tys⟩, ty, pos, af, none⟩ :: rest) acc s σ :=
  A.step rfl (tpure fun g w a ho => by
    have h1 : a.eval x = .int .i64 m := op1 hx (by simp [Op.operands, Call.operands]) ho
    have h2 : a.eval y = .int .i64 n := op1 hy (by simp [Op.operands, Call.operands]) ho
    exact ⟨.int .i64 r, by subst hr; simp [execOp, resolve, invoke, builtin, Builtin.max_, Builtin.max2, h1, h2, Result.andThen], rfl⟩) k
theorem A.nilPtr {d : Tmp} {x : Operand} {i off : Nat} (hx : ev? s x = some (.ptr i off)) (k : AOps P all draw K rest (.pure :: acc) ((d, .ptr i off) :: s) σ) : AOps P all draw K (⟨some d, .nilCheck x, ty, pos, af, none⟩ :: rest) acc s σ :=
  A.step rfl (tpure fun g w a ho => by
    obtain ⟨b, hb, e⟩ := op1 hx (by simp [Op.operands]) ho
    exact ⟨_, by simp only [execOp, e]; rfl, ⟨b, hb, rfl⟩⟩) k
theorem A.callW {d : Option Tmp} {f : FuncId} {args : Array Operand} {tys : Array TypeId} {x0 : AV} {vals vals0 cs cs' : List AV} {n n' : Nat} {B : List Ob} {T : List Tok} {v : AV}
    (hp : AFn P f (x0 :: vals0) ⟨[.cells cs], [.len n]⟩ (fun e σ1 => e = .ret v ∧ σ1 = ⟨[.cells cs'], [.len n']⟩)) (ha : evsK s args.toList some = some (x0 :: vals)) (hσ : σ = ⟨.cells cs :: B, .len n :: T⟩)
    (hx0 : x0.low 1 1 = true) (hc : AV.closedL vals0 = true) (hcs : AV.lowL 1 1 cs = true) (hcs' : AV.lowL 1 1 cs' = true) (hv : v.low 1 1 = true) (hw : WeakL vals vals0)
    (kk : AOps P all draw K rest (.all :: acc) (putS d v s) ⟨.cells cs' :: B, .len n' :: T⟩) : AOps P all draw K (⟨d, .call ⟨.value (.func f), args, tys⟩, ty, pos, af, none⟩ :: rest) acc s σ := by
  subst hσ
  have hfb : ∀ i, i < 1 → emb (B.length + 1) [0] i = i := fun i hi => by obtain rfl : i = 0 := by omega
                                                                         simp [emb]
  have hft : ∀ i, i < 1 → emb (T.length + 1) [0] i = i := fun i hi => by obtain rfl : i = 0 := by omega
                                                                         simp [emb]
  have hob : ∀ ys : List AV, AV.lowL 1 1 ys = true → Ob.ren (emb (B.length + 1) [0]) (emb (T.length + 1) [0]) (.cells ys) = .cells ys := fun ys h1 => by
    rw [Ob.ren, AV.renL_same hfb hft ys h1]
  refine A.callR (nB := B.length + 1) (nT := T.length + 1) (B0 := [.cells cs]) (T0 := [.len n]) (B1 := [.cells cs']) (T1 := [.len n']) (v0 := v) [0] [0] ha hp rfl rfl ⟨by simp, by simp⟩ ⟨by simp, by simp⟩ rfl rfl (fun j i' ob h ho => ?_) (fun j i' t h ht => ?_) ?_ rfl ?_ ?_ (AV.ren_same hfb hft v hv) (B' := .cells cs' :: B) (T' := .len n' :: T) ?_ ?_ kk
  · cases j with
    | zero =>
      simp at h ho
      subst h; subst ho
      rw [hob _ hcs]
      rfl
    | succ j => simp at h
  · cases j with
    | zero =>
      simp at h ht
      subst h; subst ht
      rfl
    | succ j => simp at h
  · simp only [List.length_cons, List.length_nil, belowB, Ob.low, Bool.and_true]
    exact hcs
  · simp only [List.length_cons, List.length_nil, AV.lowL, AV.lowL_of_closed _ _ _ hc, Bool.and_true]
    exact hx0
  · rw [AV.renL, AV.renL_closed _ _ _ hc, AV.ren_same hfb hft x0 hx0]
    exact WeakL.cons (Weak.refl _) hw
  · simp only [merge, upd, List.map_cons, List.map_nil, hob _ hcs', List.length_cons, List.length_nil, List.drop_succ_cons, List.drop_zero, List.append_nil, List.set_cons_zero]
  · simp only [merge, upd, List.map_cons, List.map_nil, Tok.ren, List.length_cons, List.length_nil, List.drop_succ_cons, List.drop_zero, List.append_nil, List.set_cons_zero]
end
end Go.Av
namespace Go.Proofs.YtegakkonlhmeaaaGreatDoor
open Go Go.Av
attribute [local irreducible] HCode AOps PFn AFn Av.Step TStep
structure Tkn where
  kind : Int
  s : Str
def Tkn.enc (t : Tkn) : AV := .agg [.int .i64 t.kind, .str t.s]
theorem Tkn.closed (t : Tkn) : t.enc.closed = true := rfl
theorem Tkn.closedL (l : List Tkn) : AV.closedL (l.map Tkn.enc) = true := closedL_map Tkn.closed l
@[simp] theorem lowL_Tkn (n m : Nat) (l : List Tkn) : AV.lowL n m (List.map Tkn.enc l) = true := AV.lowL_of_closed n m _ (Tkn.closedL l)
theorem Tkn.fitsAll (l : List Tkn) : Av.fitsAll true 2 (l.map Tkn.enc) = true := fitsAll_map (fun _ => rfl) l
def tP (s : Str) : Tkn := ⟨1, s⟩
def tW (s : Str) : Tkn := ⟨2, s⟩
def boolS (b : Bool) : Str := if b = true then sTrue else sFalse
mutual
def toksV : Val → List Tkn
  | .mk k n s l m => if k = 0 then [tW sNull] else if k = 1 then [tW (boolS (n == 1))] else if k = 2 then [⟨3, Lib.itoa n⟩] else if k = 3 then [⟨numOf s, s⟩] else if k = 4 then [⟨5, s⟩] else if k = 5 then [tW s]
    else if k = 8 then [tP [36], tW s] else if k = 6 then tP [91] :: (toksL l ++ [tP [93]]) else tP [123] :: (toksM m ++ [tP [125]])
def toksL : List Val → List Tkn
  | [] => []
  | v :: l => toksV v ++ toksL l
def toksM : List Mem → List Tkn
  | [] => []
  | .mk name v :: m => tW name :: tP [58] :: (toksV v ++ toksM m)
end
theorem toksV_eq (v : Val) : toksV v = if v.kind = 0 then [tW sNull] else if v.kind = 1 then [tW (boolS (v.n == 1))] else if v.kind = 2 then [⟨3, Lib.itoa v.n⟩] else if v.kind = 3 then [⟨numOf v.s, v.s⟩] else if v.kind = 4 then [⟨5, v.s⟩] else if v.kind = 5 then [tW v.s]
    else if v.kind = 8 then [tP [36], tW v.s] else if v.kind = 6 then tP [91] :: (toksL v.l ++ [tP [93]]) else tP [123] :: (toksM v.m ++ [tP [125]]) := by
  cases v; rw [toksV]; rfl
mutual
theorem toksV_len : ∀ v : Val, (toksV v).length ≤ 2 * v.size
  | .mk k n s l m => by
    have h1 := toksL_len l
    have h2 := toksM_len m
    rw [toksV, Val.size]
    repeat' split
    all_goals simp only [List.length_cons, List.length_append, List.length_nil]; omega
theorem toksL_len : ∀ l : List Val, (toksL l).length ≤ 2 * Val.sizeL l
  | [] => by rw [toksL]; simp
  | v :: l => by
    have h1 := toksV_len v
    have h2 := toksL_len l
    rw [toksL, Val.sizeL, List.length_append]; omega
theorem toksM_len : ∀ m : List Mem, (toksM m).length ≤ 2 * Val.sizeM m
  | [] => by rw [toksM]; simp
  | .mk _ v :: m => by
    have h1 := toksV_len v
    have h2 := toksM_len m
    rw [toksM, Val.sizeM, List.length_cons, List.length_cons, List.length_append]; omega
end
theorem toksL_app : ∀ a b : List Val, toksL (a ++ b) = toksL a ++ toksL b
  | [], b => by rw [toksL]; rfl
  | x :: a, b => by rw [List.cons_append, toksL, toksL, toksL_app a b, List.append_assoc]
theorem toksM_app : ∀ a b : List Mem, toksM (a ++ b) = toksM a ++ toksM b
  | [], b => by rw [toksM]; rfl
  | .mk _ _ :: a, b => by rw [List.cons_append, toksM, toksM, toksM_app a b]; simp
theorem toksL_take {l : List Val} {k : Nat} (h : k < l.length) : toksL (l.take (k + 1)) = toksL (l.take k) ++ toksV l[k] := by
  rw [List.take_succ_eq_append_getElem h, toksL_app, toksL, toksL, List.append_nil]
theorem toksM_take {l : List Mem} {k : Nat} (h : k < l.length) : toksM (l.take (k + 1)) = (toksM (l.take k) ++ [tW l[k].name, tP [58]]) ++ toksV l[k].v := by
  rw [List.take_succ_eq_append_getElem h, toksM_app]
  cases l[k]; rw [toksM, toksM]; simp [Mem.name, Mem.v]
theorem max_int (a b : Nat) : (if (b : Int) > (a : Int) then (b : Int) else (a : Int)) = ((max a b : Nat) : Int) := by
  split <;> omega
theorem vDepth : ∀ N : Nat, N ≤ 68719476736 → ∀ v : Val, v.size ≤ N → PFn Tryz.prog 280 [v.enc] (.int .i64 (depV v))
  | 0, _, v, hv => absurd hv (by have := v.size_pos; omega)
  | N + 1, hN, v, hv => by
    have ih := vDepth N (by omega)
    have hll := v.l_len
    have hml := v.m_len
    have hsp := v.size_parts
    have hd1 := depL_le v.l
    have hd2 := depM_le v.m
    refine AFn.plain rfl (by simp [AV.closedL, Val.closed]) (AFn.enter [2] Tryz.func280 rfl rfl rfl rfl rfl (by decide) ?_)
    rw [depV_eq]
    by_cases k6 : v.kind = 6
    · have q6 : (v.kind == 6) = true := by simp [k6]
      rw [if_pos k6]
      repeat' first | refine .br ?_ | refine .seq ?_ | refine .rg ?_ | refine .rd ?_ | refine .block ?_ | refine .scope ?_ | refine .skip ?_ | refine .label ?_ | refine .exit ?_ | refine .ret ?_ | refine .ct ?_ | refine .cf ?_ | refine .cy ?_ | refine .cn ?_ | (refine .cond rfl ?_ ?_ <;> intro hc) | refine A.nil_seq ?_ | refine .nl ?_ | refine .dd ?_ | refine .ys ?_ | refine .no ?_ | (refine A.guard rfl ?_ ?_ <;> intro hc) | refine .lb ?_ | refine .ln ?_ | refine .ls ?_ | refine .pv ?_ | refine .ix ?_ | refine .pt ?_ | refine .pf ?_ | refine .bx ?_ | refine .al ?_ | refine .st ?_ | refine .ad ?_ | refine .sb ?_ | refine .mf ?_ | refine .cl ?_ | refine .cw ?_ | refine .ck ?_ | fail
      refine HCode.forK v.l.length (fun k => [(15, .int .i64 k), (14, .int .i64 v.lv.length), (13, .slice v.lv .no), (3, .int .i64 (depL (v.l.take k) : Nat))])
        (fun k => ⟨[], []⟩) (fun _ => True) ⟨rfl, rfl, rfl, rfl, trivial⟩ rfl trivial fun k hk _ => ?_
      by_cases h1 : k < v.l.length
      · have d1 : decide ((k : Int) < (v.lv.length : Int)) = true := by rw [v.lv_len]; simp [h1]
        have x1 := Val.lv_get h1
        have hc := ih v.l[k] (by have := Val.size_l h1; omega)
        have hm := max_int (depL (v.l.take k)) (depV v.l[k])
        rw [← depL_take h1] at hm
        repeat' first | refine .seq ?_ | refine .rg ?_ | refine .rd ?_ | refine .block ?_ | refine .scope ?_ | refine .skip ?_ | refine .label ?_ | refine .exit ?_ | refine .ret ?_ | refine .ct ?_ | refine .cf ?_ | refine .cy ?_ | refine .cn ?_ | (refine .cond rfl ?_ ?_ <;> intro hc) | refine A.nil_seq ?_ | refine .nl ?_ | refine .dd ?_ | refine .ys ?_ | refine .no ?_ | (refine A.guard rfl ?_ ?_ <;> intro hc) | refine .lb ?_ | refine .ln ?_ | refine .ls ?_ | refine .pv ?_ | refine .ix ?_ | refine .pt ?_ | refine .pf ?_ | refine .bx ?_ | refine .al ?_ | refine .st ?_ | refine .ad ?_ | refine .sb ?_ | refine .mf ?_ | refine .cl ?_ | refine .cw ?_ | refine .ck ?_ | refine A.max2 rfl rfl hm ?_ | fail
        exact ⟨h1, ⟨rfl, rfl, rfl, rfl, trivial⟩, by simp [belowS, AV.low], rfl, rfl, trivial⟩
      · have d1 : decide ((k : Int) < (v.lv.length : Int)) = false := by rw [v.lv_len]; simp; omega
        obtain rfl : k = v.l.length := by omega
        rw [List.take_length]
        repeat' first | refine .seq ?_ | refine .rg ?_ | refine .rd ?_ | refine .block ?_ | refine .scope ?_ | refine .skip ?_ | refine .label ?_ | refine .exit ?_ | refine .ret ?_ | refine .ct ?_ | refine .cf ?_ | refine .cy ?_ | refine .cn ?_ | (refine .cond rfl ?_ ?_ <;> intro hc) | refine A.nil_seq ?_ | refine .nl ?_ | refine .dd ?_ | refine .ys ?_ | refine .no ?_ | (refine A.guard rfl ?_ ?_ <;> intro hc) | refine .lb ?_ | refine .ln ?_ | refine .ls ?_ | refine .pv ?_ | refine .ix ?_ | refine .pt ?_ | refine .pf ?_ | refine .bx ?_ | refine .al ?_ | refine .st ?_ | refine .ad ?_ | refine .sb ?_ | refine .mf ?_ | refine .cl ?_ | refine .cw ?_ | refine .ck ?_ | fail
        exact Fin.ret1 rfl (Weak.eq (congrArg (AV.int .i64) (by omega)))
    · have q6 : (v.kind == 6) = false := by simp [k6]
      rw [if_neg k6]
      by_cases k7 : v.kind = 7
      · have q7 : (v.kind == 7) = true := by simp [k7]
        rw [if_pos k7]
        repeat' first | refine .br ?_ | refine .seq ?_ | refine .rg ?_ | refine .rd ?_ | refine .block ?_ | refine .scope ?_ | refine .skip ?_ | refine .label ?_ | refine .exit ?_ | refine .ret ?_ | refine .ct ?_ | refine .cf ?_ | refine .cy ?_ | refine .cn ?_ | (refine .cond rfl ?_ ?_ <;> intro hc) | refine A.nil_seq ?_ | refine .nl ?_ | refine .dd ?_ | refine .ys ?_ | refine .no ?_ | (refine A.guard rfl ?_ ?_ <;> intro hc) | refine .lb ?_ | refine .ln ?_ | refine .ls ?_ | refine .pv ?_ | refine .ix ?_ | refine .pt ?_ | refine .pf ?_ | refine .bx ?_ | refine .al ?_ | refine .st ?_ | refine .ad ?_ | refine .sb ?_ | refine .mf ?_ | refine .cl ?_ | refine .cw ?_ | refine .ck ?_ | fail
        refine HCode.forK v.m.length (fun k => [(29, .int .i64 k), (28, .int .i64 v.mv.length), (27, .slice v.mv .no), (3, .int .i64 (depM (v.m.take k) : Nat))])
          (fun k => ⟨[], []⟩) (fun _ => True) ⟨rfl, rfl, rfl, rfl, trivial⟩ rfl trivial fun k hk _ => ?_
        by_cases h1 : k < v.m.length
        · have d1 : decide ((k : Int) < (v.mv.length : Int)) = true := by rw [v.mv_len]; simp [h1]
          have x1 := Val.mv_get h1
          have hc := ih v.m[k].v (by have := Val.size_m h1; omega)
          have hm := max_int (depM (v.m.take k)) (depV v.m[k].v)
          rw [← depM_take h1] at hm
          repeat' first | refine .seq ?_ | refine .rg ?_ | refine .rd ?_ | refine .block ?_ | refine .scope ?_ | refine .skip ?_ | refine .label ?_ | refine .exit ?_ | refine .ret ?_ | refine .ct ?_ | refine .cf ?_ | refine .cy ?_ | refine .cn ?_ | (refine .cond rfl ?_ ?_ <;> intro hc) | refine A.nil_seq ?_ | refine .nl ?_ | refine .dd ?_ | refine .ys ?_ | refine .no ?_ | (refine A.guard rfl ?_ ?_ <;> intro hc) | refine .lb ?_ | refine .ln ?_ | refine .ls ?_ | refine .pv ?_ | refine .ix ?_ | refine .pt ?_ | refine .pf ?_ | refine .bx ?_ | refine .al ?_ | refine .st ?_ | refine .ad ?_ | refine .sb ?_ | refine .mf ?_ | refine .cl ?_ | refine .cw ?_ | refine .ck ?_ | refine A.max2 rfl rfl hm ?_ | fail
          exact ⟨h1, ⟨rfl, rfl, rfl, rfl, trivial⟩, by simp [belowS, AV.low], rfl, rfl, trivial⟩
        · have d1 : decide ((k : Int) < (v.mv.length : Int)) = false := by rw [v.mv_len]; simp; omega
          obtain rfl : k = v.m.length := by omega
          rw [List.take_length]
          repeat' first | refine .seq ?_ | refine .rg ?_ | refine .rd ?_ | refine .block ?_ | refine .scope ?_ | refine .skip ?_ | refine .label ?_ | refine .exit ?_ | refine .ret ?_ | refine .ct ?_ | refine .cf ?_ | refine .cy ?_ | refine .cn ?_ | (refine .cond rfl ?_ ?_ <;> intro hc) | refine A.nil_seq ?_ | refine .nl ?_ | refine .dd ?_ | refine .ys ?_ | refine .no ?_ | (refine A.guard rfl ?_ ?_ <;> intro hc) | refine .lb ?_ | refine .ln ?_ | refine .ls ?_ | refine .pv ?_ | refine .ix ?_ | refine .pt ?_ | refine .pf ?_ | refine .bx ?_ | refine .al ?_ | refine .st ?_ | refine .ad ?_ | refine .sb ?_ | refine .mf ?_ | refine .cl ?_ | refine .cw ?_ | refine .ck ?_ | fail
          exact Fin.ret1 rfl (Weak.eq (congrArg (AV.int .i64) (by omega)))
      · have q7 : (v.kind == 7) = false := by simp [k7]
        rw [if_neg k7]
        repeat' first | refine .br ?_ | refine .seq ?_ | refine .rg ?_ | refine .rd ?_ | refine .block ?_ | refine .scope ?_ | refine .skip ?_ | refine .label ?_ | refine .exit ?_ | refine .ret ?_ | refine .ct ?_ | refine .cf ?_ | refine .cy ?_ | refine .cn ?_ | (refine .cond rfl ?_ ?_ <;> intro hc) | refine A.nil_seq ?_ | refine .nl ?_ | refine .dd ?_ | refine .ys ?_ | refine .no ?_ | (refine A.guard rfl ?_ ?_ <;> intro hc) | refine .lb ?_ | refine .ln ?_ | refine .ls ?_ | refine .pv ?_ | refine .ix ?_ | refine .pt ?_ | refine .pf ?_ | refine .bx ?_ | refine .al ?_ | refine .st ?_ | refine .ad ?_ | refine .sb ?_ | refine .mf ?_ | refine .cl ?_ | refine .cw ?_ | refine .ck ?_ | fail
        exact Fin.ret1 rfl (Weak.refl _)
theorem vPlain (v : Val) (hv : v.size ≤ 68719476736) : PFn Tryz.prog 288 [v.enc] (.bool (plainV v)) := by
  have h := vall 19 nameB (fun s hs => lName s (by omega)) v.size hv v (Nat.le_refl _)
  have h2 := vDepth v.size hv v (Nat.le_refl _)
  refine AFn.plain rfl (by simp [AV.closedL, Val.closed]) (AFn.enter [2] Tryz.func288 rfl rfl rfl rfl rfl (by decide) ?_)
  unfold plainV
  have hd : decide (depV v ≤ 16) = decide ((depV v : Int) ≤ 16) := by simp only [decide_eq_decide]; omega
  rw [hd]
  cases h0 : allV nameB v with
  | true =>
    rw [h0] at h
    repeat' first | refine A.box_r rfl rfl ?_ | refine .seq ?_ | refine .rg ?_ | refine .rd ?_ | refine .block ?_ | refine .scope ?_ | refine .skip ?_ | refine .label ?_ | refine .exit ?_ | refine .ret ?_ | refine .ct ?_ | refine .cf ?_ | refine .cy ?_ | refine .cn ?_ | (refine .cond rfl ?_ ?_ <;> intro hc) | refine A.nil_seq ?_ | refine .nl ?_ | refine .dd ?_ | refine .ys ?_ | refine .no ?_ | (refine A.guard rfl ?_ ?_ <;> intro hc) | refine .lb ?_ | refine .ln ?_ | refine .ls ?_ | refine .pv ?_ | refine .ix ?_ | refine .pt ?_ | refine .pf ?_ | refine .bx ?_ | refine .al ?_ | refine .st ?_ | refine .ad ?_ | refine .sb ?_ | refine .mf ?_ | refine .cl ?_ | refine .cw ?_ | refine .ck ?_ | refine A.call rfl h (WeakL.refl _) ?_ | refine A.call rfl h2 (WeakL.refl _) ?_ | refine A.leq rfl rfl ?_ | fail
    exact Fin.ret1 rfl (Weak.refl _)
  | false =>
    rw [h0] at h
    repeat' first | refine A.box_r rfl rfl ?_ | refine .seq ?_ | refine .rg ?_ | refine .rd ?_ | refine .block ?_ | refine .scope ?_ | refine .skip ?_ | refine .label ?_ | refine .exit ?_ | refine .ret ?_ | refine .ct ?_ | refine .cf ?_ | refine .cy ?_ | refine .cn ?_ | (refine .cond rfl ?_ ?_ <;> intro hc) | refine A.nil_seq ?_ | refine .nl ?_ | refine .dd ?_ | refine .ys ?_ | refine .no ?_ | (refine A.guard rfl ?_ ?_ <;> intro hc) | refine .lb ?_ | refine .ln ?_ | refine .ls ?_ | refine .pv ?_ | refine .ix ?_ | refine .pt ?_ | refine .pf ?_ | refine .bx ?_ | refine .al ?_ | refine .st ?_ | refine .ad ?_ | refine .sb ?_ | refine .mf ?_ | refine .cl ?_ | refine .cw ?_ | refine .ck ?_ | refine A.call rfl h (WeakL.refl _) ?_ | fail
    exact Fin.ret1 rfl (Weak.refl _)
theorem fmtBool0 (b : Bool) : PFn Tryz.prog 294 [.bool b] (.str (boolS b)) := by
  refine AFn.plain rfl rfl (AFn.enter [2] Tryz.func294 rfl rfl rfl rfl rfl (by decide) ?_)
  cases b with
  | true =>
    repeat' first | refine .seq ?_ | refine .rg ?_ | refine .rd ?_ | refine .block ?_ | refine .scope ?_ | refine .skip ?_ | refine .label ?_ | refine .exit ?_ | refine .ret ?_ | refine .ct ?_ | refine .cf ?_ | refine .cy ?_ | refine .cn ?_ | (refine .cond rfl ?_ ?_ <;> intro hc) | refine A.nil_seq ?_ | refine .nl ?_ | refine .dd ?_ | refine .ys ?_ | refine .no ?_ | (refine A.guard rfl ?_ ?_ <;> intro hc) | refine .lb ?_ | refine .ln ?_ | refine .ls ?_ | refine .pv ?_ | refine .ix ?_ | refine .pt ?_ | refine .pf ?_ | refine .bx ?_ | refine .al ?_ | refine .st ?_ | refine .ad ?_ | refine .sb ?_ | refine .mf ?_ | refine .cl ?_ | refine .cw ?_ | refine .ck ?_ | fail
    exact Fin.ret1 rfl (Weak.refl _)
  | false =>
    repeat' first | refine .seq ?_ | refine .rg ?_ | refine .rd ?_ | refine .block ?_ | refine .scope ?_ | refine .skip ?_ | refine .label ?_ | refine .exit ?_ | refine .ret ?_ | refine .ct ?_ | refine .cf ?_ | refine .cy ?_ | refine .cn ?_ | (refine .cond rfl ?_ ?_ <;> intro hc) | refine A.nil_seq ?_ | refine .nl ?_ | refine .dd ?_ | refine .ys ?_ | refine .no ?_ | (refine A.guard rfl ?_ ?_ <;> intro hc) | refine .lb ?_ | refine .ln ?_ | refine .ls ?_ | refine .pv ?_ | refine .ix ?_ | refine .pt ?_ | refine .pf ?_ | refine .bx ?_ | refine .al ?_ | refine .st ?_ | refine .ad ?_ | refine .sb ?_ | refine .mf ?_ | refine .cl ?_ | refine .cw ?_ | refine .ck ?_ | fail
    exact Fin.ret1 rfl (Weak.refl _)
theorem fmtBool (b : Bool) : PFn Tryz.prog 292 [.bool b] (.str (boolS b)) := by
  have h := fmtBool0 b
  refine AFn.plain rfl rfl (AFn.enter [2] Tryz.func292 rfl rfl rfl rfl rfl (by decide) ?_)
  repeat' first | refine .seq ?_ | refine .rg ?_ | refine .rd ?_ | refine .block ?_ | refine .scope ?_ | refine .skip ?_ | refine .label ?_ | refine .exit ?_ | refine .ret ?_ | refine .ct ?_ | refine .cf ?_ | refine .cy ?_ | refine .cn ?_ | (refine .cond rfl ?_ ?_ <;> intro hc) | refine A.nil_seq ?_ | refine .nl ?_ | refine .dd ?_ | refine .ys ?_ | refine .no ?_ | (refine A.guard rfl ?_ ?_ <;> intro hc) | refine .lb ?_ | refine .ln ?_ | refine .ls ?_ | refine .pv ?_ | refine .ix ?_ | refine .pt ?_ | refine .pf ?_ | refine .bx ?_ | refine .al ?_ | refine .st ?_ | refine .ad ?_ | refine .sb ?_ | refine .mf ?_ | refine .cl ?_ | refine .cw ?_ | refine .ck ?_ | fail
  exact Fin.ret1 rfl (Weak.refl _)
theorem v_word (s : Str) : PFn Tryz.prog 291 [.str s] (tW s).enc := by
  refine AFn.plain rfl rfl (AFn.enterR [.cell 2 192] Tryz.func291 rfl rfl rfl rfl rfl ?_)
  repeat' first | refine .seq ?_ | refine .rg ?_ | refine .rd ?_ | refine .block ?_ | refine .scope ?_ | refine .skip ?_ | refine .label ?_ | refine .exit ?_ | refine .ret ?_ | refine .ct ?_ | refine .cf ?_ | refine .cy ?_ | refine .cn ?_ | (refine .cond rfl ?_ ?_ <;> intro hc) | refine A.nil_seq ?_ | refine .nl ?_ | refine .dd ?_ | refine .ys ?_ | refine .no ?_ | (refine A.guard rfl ?_ ?_ <;> intro hc) | refine .lb ?_ | refine .ln ?_ | refine .ls ?_ | refine .pv ?_ | refine .ix ?_ | refine .pt ?_ | refine .pf ?_ | refine .bx ?_ | refine .al ?_ | refine .st ?_ | refine .ad ?_ | refine .sb ?_ | refine .mf ?_ | refine .cl ?_ | refine .cw ?_ | refine .ck ?_ | fail
  exact FinR.ret1 rfl (Weak.refl _)
theorem v_punct (s : Str) : PFn Tryz.prog 293 [.str s] (tP s).enc := by
  refine AFn.plain rfl rfl (AFn.enterR [.cell 2 192] Tryz.func293 rfl rfl rfl rfl rfl ?_)
  repeat' first | refine .seq ?_ | refine .rg ?_ | refine .rd ?_ | refine .block ?_ | refine .scope ?_ | refine .skip ?_ | refine .label ?_ | refine .exit ?_ | refine .ret ?_ | refine .ct ?_ | refine .cf ?_ | refine .cy ?_ | refine .cn ?_ | (refine .cond rfl ?_ ?_ <;> intro hc) | refine A.nil_seq ?_ | refine .nl ?_ | refine .dd ?_ | refine .ys ?_ | refine .no ?_ | (refine A.guard rfl ?_ ?_ <;> intro hc) | refine .lb ?_ | refine .ln ?_ | refine .ls ?_ | refine .pv ?_ | refine .ix ?_ | refine .pt ?_ | refine .pf ?_ | refine .bx ?_ | refine .al ?_ | refine .st ?_ | refine .ad ?_ | refine .sb ?_ | refine .mf ?_ | refine .cl ?_ | refine .cw ?_ | refine .ck ?_ | fail
  exact FinR.ret1 rfl (Weak.refl _)
end Go.Proofs.YtegakkonlhmeaaaGreatDoor
