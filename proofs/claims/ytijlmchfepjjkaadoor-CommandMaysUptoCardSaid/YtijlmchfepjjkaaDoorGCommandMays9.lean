/-
  What the packages wrap, defs, literal compute, in plain words; plain laws of it.
  The package wrap: Right, bit, Is, Item, List, Must, Bare.
  The reference: start, digit, Name, Has, RightType, Item, Is.
-/
import Derived.Test.YtijlmchfepjjkaaDoorGCommandMays8
import Derived.Test.YtijlmchfepjjkaaDoorGCommandMays7
import Derived.Test.YtijlmchfepjjkaaDoorGCommandMays3
import Derived.Test.YtijlmchfepjjkaaDoorGCommandMays6
namespace Go.Proofs.YtijlmchfepjjkaaDoor
open Go Go.Av
set_option maxRecDepth 100000
set_option linter.unusedVariables false
set_option linter.unusedSimpArgs false

/-- May a type be? -/
def rightT (t : Typ) : Bool := nameB t.name && (decide (0 ≤ t.lists) && (decide (t.lists ≤ 4) && (decide (0 ≤ t.musts) && decide (t.musts < 2 ^ (t.lists.toNat + 1)))))
/-- Must it be there? -/
def isT (t : Typ) : Bool := rightT t && decide (t.musts % 2 = 1)
def itemT (t : Typ) : Typ := ⟨t.name, t.lists - 1, t.musts / 2⟩
def zeroT : Typ := ⟨[], 0, 0⟩
def itemR (t : Typ) : Typ × Bool := if rightT t = true ∧ t.lists ≠ 0 then (itemT t, true) else (zeroT, false)
def listT (t : Typ) : Typ := ⟨t.name, t.lists + 1, t.musts * 2⟩
def mustT (t : Typ) : Typ := if rightT t = true then ⟨t.name, t.lists, if t.musts % 2 = 1 then t.musts else t.musts + 1⟩ else t
def bareT (t : Typ) : Typ := if rightT t = true then ⟨t.name, t.lists, if t.musts % 2 = 1 then t.musts - 1 else t.musts⟩ else t
theorem rightT_iff {t : Typ} : rightT t = true ↔ nameB t.name = true ∧ 0 ≤ t.lists ∧ t.lists ≤ 4 ∧ 0 ≤ t.musts ∧ t.musts < 2 ^ (t.lists.toNat + 1) := by
  simp [rightT, Bool.and_eq_true, and_assoc]
theorem rightT_item {t : Typ} (h : rightT t = true) (hl : t.lists ≠ 0) : rightT (itemT t) = true := by
  rw [rightT_iff] at *
  obtain ⟨h1, h2, h3, h4, h5⟩ := h
  have e : t.lists.toNat = (t.lists - 1).toNat + 1 := by omega
  refine ⟨h1, ?_, ?_, ?_, ?_⟩
  · show 0 ≤ t.lists - 1; omega
  · show t.lists - 1 ≤ 4; omega
  · show 0 ≤ t.musts / 2; omega
  · show t.musts / 2 < 2 ^ ((t.lists - 1).toNat + 1)
    rw [e, Int.pow_succ] at h5
    omega

/-- The four names that are always there. -/
def sInt : Str := [73, 110, 116]
def sString : Str := [83, 116, 114, 105, 110, 103]
def sBoolean : Str := [66, 111, 111, 108, 101, 97, 110]
def sID : Str := [73, 68]
def scalarB (n : Str) : Bool := n == sInt || n == sString || n == sBoolean || n == sID
def zeroD : Dfn := ⟨0, [], [], [], [], []⟩
def findO (s : Sch) (name : Str) : Option Dfn := if scalarB name = true then some ⟨0, name, [], [], [], []⟩ else s.defs.find? (fun d => d.name == name)
def findR (s : Sch) (name : Str) : Dfn × Bool := match findO s name with
  | some d => (d, true)
  | none => (zeroD, false)
/-- Is there a definition, of one of these kinds? -/
def kindB (s : Sch) (name : Str) (ks : List Int) : Bool := (findR s name).2 && decide ((findR s name).1.kind ∈ ks)
def leafB (s : Sch) (name : Str) : Bool := kindB s name [0, 4]
def compB (s : Sch) (name : Str) : Bool := kindB s name [1, 2, 3]
def entryB (s : Sch) (name : Str) : Bool := kindB s name [0, 4, 5]
abbrev zeroVal : Val := val0
def zeroP : Par := ⟨[], zeroT, false, zeroVal⟩
def parO (l : List Par) (name : Str) : Option Par := l.find? (fun p => p.name == name)
def parR (l : List Par) (name : Str) : Par × Bool := match parO l name with
  | some p => (p, true)
  | none => (zeroP, false)
def reqB (p : Par) : Bool := isT p.t && !p.has
/-- Are all there that must be? -/
def needsB (m : List Mem) : List Par → Bool
  | [] => true
  | p :: l => ((m.any fun x => x.name == p.name) || !reqB p) && needsB m l
def scalFit (name : Str) (k n : Int) : Bool :=
  if name = sInt then k == 2 && (decide (-2147483648 ≤ n) && decide (n ≤ 2147483647)) else if name = sString then k == 4 else if name = sBoolean then k == 1 else if name = sID then k == 4 || k == 2 else false
def bareB (s : Sch) (name : Str) (k n : Int) (str : Str) (inp : List Par → Bool) : Bool :=
  match findO s name with
  | none => false
  | some d => if d.kind = 4 then k == 5 && decide (str ∈ d.parts) else if d.kind = 5 then k == 7 && inp d.params else if d.kind = 0 then scalFit name k n else false
mutual
/-- May a good value stand where a type is asked for? w: it is an item of a list that is written. -/
def fitsV (s : Sch) : Val → Typ → Bool → Bool
  | .mk k n str l m, t, w =>
    if k = 8 then rightT t else if k = 0 then rightT t && !isT t else rightT t &&
      (if t.lists = 0 then bareB s t.name k n str (fun ps => fitsM s ps m [] && needsB m ps) else if k = 6 then fitsL s l (itemT t) else !w && bareB s t.name k n str (fun ps => fitsM s ps m [] && needsB m ps))
def fitsL (s : Sch) : List Val → Typ → Bool
  | [], _ => true
  | v :: l, t => fitsV s v t true && fitsL s l t
def fitsM (s : Sch) (ps : List Par) : List Mem → List Str → Bool
  | [], _ => true
  | .mk nm v :: m, seen => (match parO ps nm with | none => false | some p => fitsV s v p.t false) && (!decide (nm ∈ seen) && fitsM s ps m (seen ++ [nm]))
end
def inputB (s : Sch) (ps : List Par) (v : Val) : Bool := v.kind == 7 && (fitsM s ps v.m [] && needsB v.m ps)
def bareV (s : Sch) (name : Str) (v : Val) : Bool := bareB s name v.kind v.n v.s (fun ps => fitsM s ps v.m [] && needsB v.m ps)
theorem fitsV_eq (s : Sch) (v : Val) (t : Typ) (w : Bool) : fitsV s v t w = if v.kind = 8 then rightT t else if v.kind = 0 then rightT t && !isT t else rightT t &&
      (if t.lists = 0 then bareV s t.name v else if v.kind = 6 then fitsL s v.l (itemT t) else !w && bareV s t.name v) := by
  cases v; rw [fitsV]; rfl
theorem fitsL_drop {s : Sch} {t : Typ} {l : List Val} {k : Nat} (h : k < l.length) : fitsL s (l.drop k) t = (fitsV s l[k] t true && fitsL s (l.drop (k + 1)) t) := by
  rw [List.drop_eq_getElem_cons h, fitsL]
theorem fitsM_drop {s : Sch} {ps : List Par} {l : List Mem} {k : Nat} (h : k < l.length) : fitsM s ps (l.drop k) ((l.take k).map Mem.name) =
    ((match parO ps l[k].name with | none => false | some p => fitsV s l[k].v p.t false) && (!decide (l[k].name ∈ (l.take k).map Mem.name) && fitsM s ps (l.drop (k + 1)) ((l.take (k + 1)).map Mem.name))) := by
  rw [List.drop_eq_getElem_cons h, List.take_succ_eq_append_getElem h, List.map_append]
  cases hx : l[k]; rw [fitsM]; rfl
/-- What is no list may stand for a list by itself, but not within one. -/
theorem fitsV_down {s : Sch} {v : Val} {t : Typ} {w : Bool} (h8 : v.kind ≠ 8) (h0 : v.kind ≠ 0) (h6 : v.kind ≠ 6) (hr : rightT t = true) (hl : t.lists ≠ 0) : fitsV s v t w = (!w && fitsV s v (itemT t) false) := by
  rw [fitsV_eq, fitsV_eq s v (itemT t), if_neg h8, if_neg h0, if_neg hl, if_neg h6, if_neg h8, if_neg h0, if_neg h6, hr, rightT_item hr hl]
  simp only [Bool.true_and, Bool.not_false, ite_self]
  rfl
theorem fitsV_list {s : Sch} {v : Val} {t : Typ} {w : Bool} (h6 : v.kind = 6) (hr : rightT t = true) (hl : t.lists ≠ 0) : fitsV s v t w = fitsL s v.l (itemT t) := by
  rw [fitsV_eq, if_neg (by omega), if_neg (by omega), if_neg hl, if_pos h6, hr]; rfl
theorem fitsV_bare {s : Sch} {v : Val} {t : Typ} {w : Bool} (h8 : v.kind ≠ 8) (h0 : v.kind ≠ 0) (hr : rightT t = true) (hl : t.lists = 0) : fitsV s v t w = bareV s t.name v := by
  rw [fitsV_eq, if_neg h8, if_neg h0, if_pos hl, hr]; rfl
theorem fitsV_wrong {s : Sch} {v : Val} {t : Typ} {w : Bool} (hr : rightT t = false) : fitsV s v t w = false := by
  rw [fitsV_eq, hr]; simp
/-- literal.Right -/
def litR (s : Sch) (t : Typ) (v : Val) : Bool := allV good v && fitsV s v t false

/-! Where variables stand. -/
mutual
/-- .. as the program reckons it. -/
def spotsP (s : Sch) : Val → Typ → Bool → List Spt
  | .mk k n str l m, t, has =>
    if k = 8 then [⟨str, t, has⟩] else if k = 6 then (if rightT t = true ∧ t.lists ≠ 0 then spotsPL s l (itemT t) else []) else if k = 7 then spotsPM s m (findR s t.name).1.params else []
def spotsPL (s : Sch) : List Val → Typ → List Spt
  | [], _ => []
  | v :: l, t => spotsP s v t false ++ spotsPL s l t
def spotsPM (s : Sch) : List Mem → List Par → List Spt
  | [], _ => []
  | .mk nm v :: m, ps => (match parO ps nm with | none => [] | some p => spotsP s v p.t p.has) ++ spotsPM s m ps
end
mutual
/-- .. as the page reckons it. -/
def spotsR (s : Sch) : Val → Typ → Bool → List Spt
  | .mk k n str l m, t, has =>
    if k = 8 then [⟨str, t, has⟩] else if k = 6 then (if rightT t = true ∧ t.lists ≠ 0 then spotsRL s l (itemT t) else []) else if k = 7 then spotsRM s m (findR s t.name).1.params else []
def spotsRL (s : Sch) : List Val → Typ → List Spt
  | [], _ => []
  | v :: l, t => spotsR s v t false ++ spotsRL s l t
def spotsRM (s : Sch) : List Mem → List Par → List Spt
  | [], _ => []
  | .mk nm v :: m, ps => spotsR s v (parR ps nm).1.t (parR ps nm).1.has ++ spotsRM s m ps
end
theorem bareB_six {s : Sch} {name : Str} {k n : Int} {str : Str} {inp : List Par → Bool} (h : bareB s name k n str inp = true) : k ≠ 6 := by
  rintro rfl
  unfold bareB at h
  split at h
  · cases h
  · split at h
    · simp at h
    · split at h
      · simp at h
      · split at h
        · unfold scalFit at h
          repeat' split at h
          all_goals simp at h
        · cases h
theorem bareB_seven {s : Sch} {name : Str} {n : Int} {str : Str} {inp : List Par → Bool} (h : bareB s name 7 n str inp = true) : inp (findR s name).1.params = true := by
  unfold bareB at h
  unfold findR
  split at h
  · cases h
  · rename_i d hd
    rw [hd]
    split at h
    · simp at h
    · split at h
      · simpa using h
      · split at h
        · unfold scalFit at h
          repeat' split at h
          all_goals simp at h
        · cases h
theorem fitsV_six {s : Sch} {n : Int} {str : Str} {l : List Val} {m : List Mem} {t : Typ} {w : Bool} (h : fitsV s (.mk 6 n str l m) t w = true) : rightT t = true ∧ t.lists ≠ 0 ∧ fitsL s l (itemT t) = true := by
  rw [fitsV, if_neg (by decide), if_neg (by decide)] at h
  simp only [Bool.and_eq_true] at h
  obtain ⟨h1, h2⟩ := h
  by_cases c : t.lists = 0
  · rw [if_pos c] at h2
    exact absurd rfl (bareB_six h2)
  · rw [if_neg c, if_pos trivial] at h2
    exact ⟨h1, c, h2⟩
theorem fitsV_seven {s : Sch} {n : Int} {str : Str} {l : List Val} {m : List Mem} {t : Typ} {w : Bool} (h : fitsV s (.mk 7 n str l m) t w = true) : fitsM s (findR s t.name).1.params m [] = true := by
  rw [fitsV, if_neg (by decide), if_neg (by decide)] at h
  simp only [Bool.and_eq_true] at h
  obtain ⟨h1, h2⟩ := h
  have h3 : bareB s t.name 7 n str (fun ps => fitsM s ps m [] && needsB m ps) = true := by
    by_cases c : t.lists = 0
    · rw [if_pos c] at h2; exact h2
    · rw [if_neg c, if_neg (by decide)] at h2
      simp only [Bool.and_eq_true] at h2
      exact h2.2
  have := bareB_seven h3
  simp only [Bool.and_eq_true] at this
  exact this.1
mutual
theorem spots_eq (s : Sch) : ∀ (v : Val) (t : Typ) (w has : Bool), fitsV s v t w = true → spotsR s v t has = spotsP s v t has
  | .mk k n str l m, t, w, has, h => by
    rw [spotsR, spotsP]
    by_cases h8 : k = 8
    · rw [if_pos h8, if_pos h8]
    · rw [if_neg h8, if_neg h8]
      by_cases h6 : k = 6
      · subst h6
        obtain ⟨h1, h2, h3⟩ := fitsV_six h
        rw [if_pos rfl, if_pos rfl, if_pos ⟨h1, h2⟩, if_pos ⟨h1, h2⟩, spots_eqL s l (itemT t) h3]
      · rw [if_neg h6, if_neg h6]
        by_cases h7 : k = 7
        · subst h7
          rw [if_pos rfl, if_pos rfl, spots_eqM s m _ [] (fitsV_seven h)]
        · rw [if_neg h7, if_neg h7]
theorem spots_eqL (s : Sch) : ∀ (l : List Val) (t : Typ), fitsL s l t = true → spotsRL s l t = spotsPL s l t
  | [], _, _ => by rw [spotsRL, spotsPL]
  | v :: l, t, h => by
    rw [fitsL, Bool.and_eq_true] at h
    rw [spotsRL, spotsPL, spots_eq s v t true false h.1, spots_eqL s l t h.2]
theorem spots_eqM (s : Sch) : ∀ (m : List Mem) (ps : List Par) (seen : List Str), fitsM s ps m seen = true → spotsRM s m ps = spotsPM s m ps
  | [], _, _, _ => by rw [spotsRM, spotsPM]
  | .mk nm v :: m, ps, seen, h => by
    rw [fitsM, Bool.and_eq_true, Bool.and_eq_true] at h
    obtain ⟨h1, h2, h3⟩ := h
    rw [spotsRM, spotsPM, spots_eqM s m ps _ h3]
    unfold parR
    cases hp : parO ps nm with
    | none => rw [hp] at h1; cases h1
    | some p =>
      rw [hp] at h1
      simp only
      rw [spots_eq s v p.t false p.has h1]
end

/-! The variables of a value, each once. -/
def addNew (l : List Str) (x : Str) : List Str := if x ∈ l then l else l ++ [x]
mutual
def varsV : Val → List Str → List Str
  | .mk k n str l m, acc => if k = 8 then addNew acc str else if k = 6 then varsL l acc else if k = 7 then varsM m acc else acc
def varsL : List Val → List Str → List Str
  | [], acc => acc
  | v :: l, acc => varsL l (varsV v acc)
def varsM : List Mem → List Str → List Str
  | [], acc => acc
  | .mk _ v :: m, acc => varsM m (varsV v acc)
end
mutual
theorem vars_spots (s : Sch) : ∀ (v : Val) (t : Typ) (w has : Bool) (acc : List Str), fitsV s v t w = true → varsV v acc = ((spotsP s v t has).map Spt.var).foldl addNew acc
  | .mk k n str l m, t, w, has, acc, h => by
    rw [varsV, spotsP]
    by_cases h8 : k = 8
    · rw [if_pos h8, if_pos h8]; rfl
    · rw [if_neg h8, if_neg h8]
      by_cases h6 : k = 6
      · subst h6
        obtain ⟨h1, h2, h3⟩ := fitsV_six h
        rw [if_pos rfl, if_pos rfl, if_pos ⟨h1, h2⟩, vars_spotsL s l (itemT t) acc h3]
      · rw [if_neg h6, if_neg h6]
        by_cases h7 : k = 7
        · subst h7
          rw [if_pos rfl, if_pos rfl, vars_spotsM s m _ [] acc (fitsV_seven h)]
        · rw [if_neg h7, if_neg h7]; rfl
theorem vars_spotsL (s : Sch) : ∀ (l : List Val) (t : Typ) (acc : List Str), fitsL s l t = true → varsL l acc = ((spotsPL s l t).map Spt.var).foldl addNew acc
  | [], _, _, _ => by rw [varsL, spotsPL]; rfl
  | v :: l, t, acc, h => by
    rw [fitsL, Bool.and_eq_true] at h
    rw [varsL, spotsPL, List.map_append, List.foldl_append, ← vars_spots s v t true false acc h.1, vars_spotsL s l t _ h.2]
theorem vars_spotsM (s : Sch) : ∀ (m : List Mem) (ps : List Par) (seen acc : List Str), fitsM s ps m seen = true → varsM m acc = ((spotsPM s m ps).map Spt.var).foldl addNew acc
  | [], _, _, _, _ => by rw [varsM, spotsPM]; rfl
  | .mk nm v :: m, ps, seen, acc, h => by
    rw [fitsM, Bool.and_eq_true, Bool.and_eq_true] at h
    obtain ⟨h1, h2, h3⟩ := h
    rw [varsM, spotsPM, List.map_append, List.foldl_append, vars_spotsM s m ps _ _ h3]
    cases hp : parO ps nm with
    | none => rw [hp] at h1; cases h1
    | some p =>
      rw [hp] at h1
      simp only
      rw [← vars_spots s v p.t false p.has acc h1]
end

/-! Plain laws. -/
theorem fitsV_two {s : Sch} {v : Val} {t u : Typ} {w : Bool} (h0 : v.kind ≠ 0) (ht : rightT t = true) (hu : rightT u = true) (hl : t.lists = u.lists) (hn : t.name = u.name) (hi : itemT t = itemT u) : fitsV s v t w = fitsV s v u w := by
  rw [fitsV_eq, fitsV_eq, ht, hu, hl, hn, hi, if_neg h0, if_neg h0]
theorem rightT_bits {t u : Typ} (ht : rightT t = true) (hn : u.name = t.name) (hl : u.lists = t.lists) (hm : u.musts / 2 = t.musts / 2) : rightT u = true := by
  rw [rightT_iff] at *
  obtain ⟨h1, h2, h3, h4, h5⟩ := ht
  rw [hn, hl]
  rw [Int.pow_succ] at h5 ⊢
  have h6 : t.musts / 2 < 2 ^ t.lists.toNat := by omega
  exact ⟨h1, h2, h3, by omega, by omega⟩
theorem bareT_name (t : Typ) : (bareT t).name = t.name ∧ (bareT t).lists = t.lists ∧ (bareT t).musts / 2 = t.musts / 2 := by
  unfold bareT
  split
  · refine ⟨rfl, rfl, ?_⟩
    show (if t.musts % 2 = 1 then t.musts - 1 else t.musts) / 2 = _
    split <;> omega
  · exact ⟨rfl, rfl, rfl⟩
theorem mustT_name (t : Typ) : (mustT t).name = t.name ∧ (mustT t).lists = t.lists ∧ (mustT t).musts / 2 = t.musts / 2 := by
  unfold mustT
  split
  · refine ⟨rfl, rfl, ?_⟩
    show (if t.musts % 2 = 1 then t.musts else t.musts + 1) / 2 = _
    split <;> omega
  · exact ⟨rfl, rfl, rfl⟩
theorem right_bareT {t : Typ} (h : rightT t = true) : rightT (bareT t) = true := rightT_bits h (bareT_name t).1 (bareT_name t).2.1 (bareT_name t).2.2
theorem right_mustT {t : Typ} (h : rightT t = true) : rightT (mustT t) = true := rightT_bits h (mustT_name t).1 (mustT_name t).2.1 (mustT_name t).2.2
theorem is_bareT {t : Typ} (h : rightT t = true) : isT (bareT t) = false := by
  unfold isT
  have e : (bareT t).musts % 2 = 0 := by
    unfold bareT
    rw [if_pos h]
    show (if t.musts % 2 = 1 then t.musts - 1 else t.musts) % 2 = 0
    split <;> omega
  rw [e]; simp
theorem is_mustT {t : Typ} (h : rightT t = true) : isT (mustT t) = true := by
  unfold isT
  have e : (mustT t).musts % 2 = 1 := by
    unfold mustT
    rw [if_pos h]
    show (if t.musts % 2 = 1 then t.musts else t.musts + 1) % 2 = 1
    split <;> omega
  rw [e, right_mustT h]; rfl
theorem item_same {t u : Typ} (hn : u.name = t.name) (hl : u.lists = t.lists) (hm : u.musts / 2 = t.musts / 2) : itemT u = itemT t := by
  unfold itemT; rw [hn, hl, hm]
theorem fits_bare_must {s : Sch} {v : Val} {t : Typ} {w : Bool} (h : rightT t = true) (h0 : v.kind ≠ 0) : fitsV s v (bareT t) w = fitsV s v (mustT t) w := by
  obtain ⟨a1, a2, a3⟩ := bareT_name t
  obtain ⟨b1, b2, b3⟩ := mustT_name t
  exact fitsV_two h0 (right_bareT h) (right_mustT h) (a2.trans b2.symm) (a1.trans b1.symm) ((item_same a1 a2 a3).trans (item_same b1 b2 b3).symm)
theorem fits_null {s : Sch} {v : Val} {t : Typ} {w : Bool} (h0 : v.kind = 0) : fitsV s v t w = (rightT t && !isT t) := by
  rw [fitsV_eq, if_neg (by omega), if_pos h0]
theorem lit_bare (s : Sch) (t : Typ) (v : Val) (h : rightT t = true) : (litR s (mustT t) v = true → litR s (bareT t) v = true) ∧ (v.kind ≠ 0 → litR s (bareT t) v = litR s (mustT t) v) ∧ litR s t zeroVal = !isT t := by
  refine ⟨fun hb => ?_, fun h0 => ?_, ?_⟩
  · unfold litR at *
    rw [Bool.and_eq_true] at *
    refine ⟨hb.1, ?_⟩
    by_cases h0 : v.kind = 0
    · rw [fits_null h0, right_bareT h, is_bareT h]; rfl
    · rw [fits_bare_must h h0]; exact hb.2
  · unfold litR
    rw [fits_bare_must h h0]
  · unfold litR
    rw [fits_null rfl, h]
    rw [show allV good zeroVal = true from rfl]; rfl
theorem right_listT {t : Typ} (h : rightT t = true) (hl : t.lists ≠ 4) : rightT (listT t) = true := by
  rw [rightT_iff] at *
  obtain ⟨h1, h2, h3, h4, h5⟩ := h
  refine ⟨h1, ?_, ?_, ?_, ?_⟩
  · show 0 ≤ t.lists + 1; omega
  · show t.lists + 1 ≤ 4; omega
  · show 0 ≤ t.musts * 2; omega
  · show t.musts * 2 < 2 ^ ((t.lists + 1).toNat + 1)
    rw [show (t.lists + 1).toNat = t.lists.toNat + 1 by omega, Int.pow_succ 2 (t.lists.toNat + 1)]
    omega
theorem item_listT (t : Typ) : itemT (listT t) = t := by
  unfold itemT listT
  have e1 : t.lists + 1 - 1 = t.lists := by omega
  have e2 : t.musts * 2 / 2 = t.musts := by omega
  simp only [e1, e2]
theorem lit_alone (s : Sch) (t : Typ) (v : Val) (h : rightT t = true) (hl : t.lists ≠ 4) (h6 : v.kind ≠ 6) (h8 : v.kind ≠ 8) (h0 : v.kind ≠ 0) :
    litR s (listT t) v = litR s t v ∧ litR s (mustT (listT t)) v = litR s t v := by
  have hr := right_listT h hl
  have hm := right_mustT hr
  have hl0 : (listT t).lists ≠ 0 := by
    have := (rightT_iff.1 h).2.1
    show t.lists + 1 ≠ 0; omega
  obtain ⟨b1, b2, b3⟩ := mustT_name (listT t)
  unfold litR
  refine ⟨?_, ?_⟩
  · rw [fitsV_down h8 h0 h6 hr hl0, item_listT]; rfl
  · rw [fitsV_down h8 h0 h6 hm (by rw [b2]; exact hl0), item_same b1 b2 b3, item_listT]; rfl
/-- An item of a list that is written may stand there as itself. -/
theorem fits_within (s : Sch) (v : Val) (t : Typ) : fitsV s v t true = (fitsV s v t false && (decide (t.lists = 0) || (v.kind == 6 || v.kind == 8 || v.kind == 0))) := by
  rw [fitsV_eq, fitsV_eq]
  by_cases h8 : v.kind = 8
  · simp [h8]
  · by_cases h0 : v.kind = 0
    · simp [h0]
    · by_cases hl : t.lists = 0
      · simp [h8, h0, hl]
      · by_cases h6 : v.kind = 6
        · simp [h6, hl]
        · simp [h8, h0, h6, hl]
theorem lit_lists (s : Sch) (t : Typ) (l : List Val) (n : Int) (str : Str) (h : rightT t = true) (hl : t.lists ≠ 4) :
    litR s (listT t) (.mk 6 0 [] l []) = l.all (fun x => litR s t x && (decide (t.lists = 0) || (x.kind == 6 || x.kind == 8 || x.kind == 0))) ∧ (t.lists = 0 → litR s t (.mk 6 0 [] l []) = false) := by
  have hl0 : (listT t).lists ≠ 0 := by
    have := (rightT_iff.1 h).2.1
    show t.lists + 1 ≠ 0; omega
  refine ⟨?_, fun h0 => ?_⟩
  · unfold litR
    rw [fitsV_list rfl (right_listT h hl) hl0, item_listT, allV]
    show ((if (6 : Int) = 6 then allL good l && true else _) && fitsL s l t) = _
    rw [if_pos rfl, Bool.and_true]
    induction l with
    | nil => rw [allL, fitsL]; rfl
    | cons x l ih =>
      rw [allL, fitsL, List.all_cons, ← ih, fits_within]
      cases allV good x <;> cases fitsV s x t false <;> cases allL good l <;> simp
  · unfold litR
    rw [fitsV_bare (v := .mk 6 0 [] l []) (show (6 : Int) ≠ 8 by decide) (show (6 : Int) ≠ 0 by decide) h h0]
    have : bareV s t.name (.mk 6 0 [] l []) ≠ true := fun e => absurd rfl (bareB_six e)
    simp at this
    rw [this, Bool.and_false]
end Go.Proofs.YtijlmchfepjjkaaDoor
namespace Go.Proofs.YtijlmchfepjjkaaDoor
open Go Go.Av
set_option maxRecDepth 100000
set_option maxHeartbeats 8000000
set_option linter.unusedVariables false
set_option linter.unusedSimpArgs false
attribute [local irreducible] HCode AOps PFn AFn Av.Step TStep

theorem shr_musts {m l : Int} (h0 : 0 ≤ l) (h4 : l ≤ 4) : m.fdiv (2 ^ min (l + 1).toNat IntKind.i64.bits) = m / 2 ^ (l.toNat + 1) := by
  have e : min (l + 1).toNat IntKind.i64.bits = l.toNat + 1 := by
    show min (l + 1).toNat 64 = _
    omega
  rw [e, Int.fdiv_eq_ediv_of_nonneg _ (Int.le_of_lt (Int.pow_pos (by decide)))]
theorem div_zero_iff {m c : Int} (h : 0 ≤ m) (hc : 0 < c) : (m / c == 0) = decide (m < c) := by
  rw [Bool.eq_iff_iff, beq_iff_eq, decide_eq_true_eq]
  constructor
  · intro e
    have h1 := Int.emod_lt_of_pos m hc
    have h2 := Int.mul_ediv_add_emod m c
    rw [e] at h2
    omega
  · exact Int.ediv_eq_zero_of_lt h
theorem wRight (t : Typ) (hs : t.name.length ≤ 9223372036854775806) : PFn Tryd.prog 41 [t.enc] (.bool (rightT t)) := by
  have hn := lName t.name hs
  refine AFn.plain rfl rfl (AFn.enter [2] Tryd.func41 rfl rfl rfl rfl rfl (by decide) ?_)
  by_cases h1 : 0 ≤ t.lists
  · have e1 : decide (0 ≤ t.lists) = true := decide_eq_true h1
    by_cases h2 : t.lists ≤ 4
    · have e2 : decide (t.lists ≤ 4) = true := decide_eq_true h2
      by_cases h3 : 0 ≤ t.musts
      · have e3 : decide (0 ≤ t.musts) = true := decide_eq_true h3
        repeat' first
          | refine .br ?_
          | refine .seq ?_ | refine .rg ?_ | refine .rd ?_ | refine .block ?_ | refine .scope ?_ | refine .skip ?_ | refine .label ?_ | refine .exit ?_ | refine .ret ?_
          | refine .ct ?_ | refine .cf ?_ | refine .cy ?_ | refine .cn ?_ | (refine .cond rfl ?_ ?_ <;> intro hc)
          | refine A.nil_seq ?_ | refine .nl ?_ | refine .dd ?_ | refine .ys ?_ | refine .no ?_ | (refine A.guard rfl ?_ ?_ <;> intro hc)
          | refine .lb ?_ | refine .ln ?_ | refine .ls ?_ | refine .pv ?_ | refine .ix ?_ | refine .pt ?_ | refine .pf ?_ | refine .bx ?_ | refine .al ?_ | refine .st ?_ | refine .ad ?_ | refine .sb ?_ | refine .mf ?_ | refine .cl ?_ | refine .cw ?_ | refine .ck ?_
          | refine A.shr rfl rfl (by omega) (shr_musts h1 h2) ?_ | fail
        all_goals
          refine Fin.ret1 rfl (Weak.eq (congrArg AV.bool ?_))
          unfold rightT
          rw [e1, e2, e3]
          try rw [div_zero_iff h3 (Int.pow_pos (by decide))]
          simp_all
      · have e3 : decide (0 ≤ t.musts) = false := decide_eq_false h3
        repeat' first
          | refine .br ?_
          | refine .seq ?_ | refine .rg ?_ | refine .rd ?_ | refine .block ?_ | refine .scope ?_ | refine .skip ?_ | refine .label ?_ | refine .exit ?_ | refine .ret ?_
          | refine .ct ?_ | refine .cf ?_ | refine .cy ?_ | refine .cn ?_ | (refine .cond rfl ?_ ?_ <;> intro hc)
          | refine A.nil_seq ?_ | refine .nl ?_ | refine .dd ?_ | refine .ys ?_ | refine .no ?_ | (refine A.guard rfl ?_ ?_ <;> intro hc)
          | refine .lb ?_ | refine .ln ?_ | refine .ls ?_ | refine .pv ?_ | refine .ix ?_ | refine .pt ?_ | refine .pf ?_ | refine .bx ?_ | refine .al ?_ | refine .st ?_ | refine .ad ?_ | refine .sb ?_ | refine .mf ?_ | refine .cl ?_ | refine .cw ?_ | refine .ck ?_ | fail
        all_goals
          refine Fin.ret1 rfl (Weak.eq (congrArg AV.bool ?_))
          unfold rightT
          rw [e3]; simp_all
    · have e2 : decide (t.lists ≤ 4) = false := decide_eq_false h2
      repeat' first
        | refine .br ?_
        | refine .seq ?_ | refine .rg ?_ | refine .rd ?_ | refine .block ?_ | refine .scope ?_ | refine .skip ?_ | refine .label ?_ | refine .exit ?_ | refine .ret ?_
        | refine .ct ?_ | refine .cf ?_ | refine .cy ?_ | refine .cn ?_ | (refine .cond rfl ?_ ?_ <;> intro hc)
        | refine A.nil_seq ?_ | refine .nl ?_ | refine .dd ?_ | refine .ys ?_ | refine .no ?_ | (refine A.guard rfl ?_ ?_ <;> intro hc)
        | refine .lb ?_ | refine .ln ?_ | refine .ls ?_ | refine .pv ?_ | refine .ix ?_ | refine .pt ?_ | refine .pf ?_ | refine .bx ?_ | refine .al ?_ | refine .st ?_ | refine .ad ?_ | refine .sb ?_ | refine .mf ?_ | refine .cl ?_ | refine .cw ?_ | refine .ck ?_ | fail
      all_goals
        refine Fin.ret1 rfl (Weak.eq (congrArg AV.bool ?_))
        unfold rightT
        rw [e2]; simp_all
  · have e1 : decide (0 ≤ t.lists) = false := decide_eq_false h1
    repeat' first
      | refine .br ?_
      | refine .seq ?_ | refine .rg ?_ | refine .rd ?_ | refine .block ?_ | refine .scope ?_ | refine .skip ?_ | refine .label ?_ | refine .exit ?_ | refine .ret ?_
      | refine .ct ?_ | refine .cf ?_ | refine .cy ?_ | refine .cn ?_ | (refine .cond rfl ?_ ?_ <;> intro hc)
      | refine A.nil_seq ?_ | refine .nl ?_ | refine .dd ?_ | refine .ys ?_ | refine .no ?_ | (refine A.guard rfl ?_ ?_ <;> intro hc)
      | refine .lb ?_ | refine .ln ?_ | refine .ls ?_ | refine .pv ?_ | refine .ix ?_ | refine .pt ?_ | refine .pf ?_ | refine .bx ?_ | refine .al ?_ | refine .st ?_ | refine .ad ?_ | refine .sb ?_ | refine .mf ?_ | refine .cl ?_ | refine .cw ?_ | refine .ck ?_ | fail
    all_goals
      refine Fin.ret1 rfl (Weak.eq (congrArg AV.bool ?_))
      unfold rightT
      rw [e1]; simp_all
theorem and1 (m : Nat) : m &&& 1 = m % 2 := Nat.and_two_pow_sub_one_eq_mod m 1
theorem bit0 (t : Typ) (h0 : 0 ≤ t.musts) (h1 : t.musts < 9223372036854775808) : PFn Tryd.prog 87 [t.enc, .int .i64 0] (.bool (decide (t.musts % 2 = 1))) := by
  refine AFn.plain rfl rfl (AFn.enter [4] Tryd.func87 rfl rfl rfl rfl rfl (by decide) ?_)
  have e : t.musts.fdiv (2 ^ min (0 : Int).toNat IntKind.i64.bits) = t.musts := by
    rw [show (2 : Int) ^ min (0 : Int).toNat IntKind.i64.bits = 1 from rfl, Int.fdiv_eq_ediv_of_nonneg _ (by decide), Int.ediv_one]
  repeat' first
    | refine .br ?_
    | refine .seq ?_ | refine .rg ?_ | refine .rd ?_ | refine .block ?_ | refine .scope ?_ | refine .skip ?_ | refine .label ?_ | refine .exit ?_ | refine .ret ?_
    | refine .ct ?_ | refine .cf ?_ | refine .cy ?_ | refine .cn ?_ | (refine .cond rfl ?_ ?_ <;> intro hc)
    | refine A.nil_seq ?_ | refine .nl ?_ | refine .dd ?_ | refine .ys ?_ | refine .no ?_ | (refine A.guard rfl ?_ ?_ <;> intro hc)
    | refine .lb ?_ | refine .ln ?_ | refine .ls ?_ | refine .pv ?_ | refine .ix ?_ | refine .pt ?_ | refine .pf ?_ | refine .bx ?_ | refine .al ?_ | refine .st ?_ | refine .ad ?_ | refine .sb ?_ | refine .mf ?_ | refine .cl ?_ | refine .cw ?_ | refine .ck ?_
    | refine A.shr rfl rfl (by decide) e ?_ | refine A.band (m := t.musts.toNat) (n := 1) rfl rfl (by omega) rfl (by omega) (by decide) (and1 _) ?_ | fail
  refine Fin.ret1 rfl (Weak.eq (congrArg AV.bool ?_))
  rw [Bool.eq_iff_iff, beq_iff_eq, decide_eq_true_eq]
  omega
theorem pow_le32 {l : Int} (h : l ≤ 4) : (2 : Int) ^ (l.toNat + 1) ≤ 32 := by
  have h' : l.toNat ≤ 4 := by omega
  generalize l.toNat = n at h'
  match n, h' with
  | 0, _ => decide
  | 1, _ => decide
  | 2, _ => decide
  | 3, _ => decide
  | 4, _ => decide
theorem musts_lt {t : Typ} (h : rightT t = true) : t.musts < 32 := by
  obtain ⟨_, _, h3, _, h5⟩ := rightT_iff.1 h
  have := pow_le32 h3
  omega
theorem wIs (t : Typ) (hs : t.name.length ≤ 9223372036854775806) : PFn Tryd.prog 44 [t.enc] (.bool (isT t)) := by
  have hr := wRight t hs
  refine AFn.plain rfl rfl (AFn.enter [2] Tryd.func44 rfl rfl rfl rfl rfl (by decide) ?_)
  cases c : rightT t with
  | true =>
    rw [c] at hr
    have hb := bit0 t (rightT_iff.1 c).2.2.2.1 (by have := musts_lt c; omega)
    repeat' first
      | refine .br ?_
      | refine .seq ?_ | refine .rg ?_ | refine .rd ?_ | refine .block ?_ | refine .scope ?_ | refine .skip ?_ | refine .label ?_ | refine .exit ?_ | refine .ret ?_
      | refine .ct ?_ | refine .cf ?_ | refine .cy ?_ | refine .cn ?_ | (refine .cond rfl ?_ ?_ <;> intro hc)
      | refine A.nil_seq ?_ | refine .nl ?_ | refine .dd ?_ | refine .ys ?_ | refine .no ?_ | (refine A.guard rfl ?_ ?_ <;> intro hc)
      | refine .lb ?_ | refine .ln ?_ | refine .ls ?_ | refine .pv ?_ | refine .ix ?_ | refine .pt ?_ | refine .pf ?_ | refine .bx ?_ | refine .al ?_ | refine .st ?_ | refine .ad ?_ | refine .sb ?_ | refine .mf ?_ | refine .cl ?_ | refine .cw ?_ | refine .ck ?_ | fail
    refine Fin.ret1 rfl (Weak.eq (congrArg AV.bool ?_))
    unfold isT; rw [c]; rfl
  | false =>
    rw [c] at hr
    repeat' first
      | refine .br ?_
      | refine .seq ?_ | refine .rg ?_ | refine .rd ?_ | refine .block ?_ | refine .scope ?_ | refine .skip ?_ | refine .label ?_ | refine .exit ?_ | refine .ret ?_
      | refine .ct ?_ | refine .cf ?_ | refine .cy ?_ | refine .cn ?_ | (refine .cond rfl ?_ ?_ <;> intro hc)
      | refine A.nil_seq ?_ | refine .nl ?_ | refine .dd ?_ | refine .ys ?_ | refine .no ?_ | (refine A.guard rfl ?_ ?_ <;> intro hc)
      | refine .lb ?_ | refine .ln ?_ | refine .ls ?_ | refine .pv ?_ | refine .ix ?_ | refine .pt ?_ | refine .pf ?_ | refine .bx ?_ | refine .al ?_ | refine .st ?_ | refine .ad ?_ | refine .sb ?_ | refine .mf ?_ | refine .cl ?_ | refine .cw ?_ | refine .ck ?_ | fail
    refine Fin.ret1 rfl (Weak.eq (congrArg AV.bool ?_))
    unfold isT; rw [c]; rfl
theorem shr_one {m : Int} : m.fdiv (2 ^ min (1 : Int).toNat IntKind.i64.bits) = m / 2 := by
  rw [show (2 : Int) ^ min (1 : Int).toNat IntKind.i64.bits = 2 from rfl, Int.fdiv_eq_ediv_of_nonneg _ (by decide)]
theorem wItem (t : Typ) (hs : t.name.length ≤ 9223372036854775806) : PFn Tryd.prog 88 [t.enc] (.tup [(itemR t).1.enc, .bool (itemR t).2]) := by
  have hr := wRight t hs
  refine AFn.plain rfl rfl (AFn.enterR [.cell 2 60, .tmp 3] Tryd.func88 rfl rfl rfl rfl rfl ?_)
  unfold itemR
  cases c : rightT t with
  | true =>
    rw [c] at hr
    obtain ⟨_, q1, q2, q3, q4⟩ := rightT_iff.1 c
    by_cases h0 : t.lists = 0
    · have e0 : (t.lists == 0) = true := by simp [h0]
      rw [if_neg (fun h => h.2 h0)]
      repeat' first
        | refine .br ?_
        | refine .seq ?_ | refine .rg ?_ | refine .rd ?_ | refine .block ?_ | refine .scope ?_ | refine .skip ?_ | refine .label ?_ | refine .exit ?_ | refine .ret ?_
        | refine .ct ?_ | refine .cf ?_ | refine .cy ?_ | refine .cn ?_ | (refine .cond rfl ?_ ?_ <;> intro hc)
        | refine A.nil_seq ?_ | refine .nl ?_ | refine .dd ?_ | refine .ys ?_ | refine .no ?_ | (refine A.guard rfl ?_ ?_ <;> intro hc)
        | refine .lb ?_ | refine .ln ?_ | refine .ls ?_ | refine .pv ?_ | refine .ix ?_ | refine .pt ?_ | refine .pf ?_ | refine .bx ?_ | refine .al ?_ | refine .st ?_ | refine .ad ?_ | refine .sb ?_ | refine .mf ?_ | refine .cl ?_ | refine .cw ?_ | refine .ck ?_ | fail
      exact FinR.ret1 rfl (Weak.refl _)
    · have e0 : (t.lists == 0) = false := by simp [h0]
      rw [if_pos ⟨rfl, h0⟩]
      repeat' first
        | refine .br ?_
        | refine .seq ?_ | refine .rg ?_ | refine .rd ?_ | refine .block ?_ | refine .scope ?_ | refine .skip ?_ | refine .label ?_ | refine .exit ?_ | refine .ret ?_
        | refine .ct ?_ | refine .cf ?_ | refine .cy ?_ | refine .cn ?_ | (refine .cond rfl ?_ ?_ <;> intro hc)
        | refine A.nil_seq ?_ | refine .nl ?_ | refine .dd ?_ | refine .ys ?_ | refine .no ?_ | (refine A.guard rfl ?_ ?_ <;> intro hc)
        | refine .lb ?_ | refine .ln ?_ | refine .ls ?_ | refine .pv ?_ | refine .ix ?_ | refine .pt ?_ | refine .pf ?_ | refine .bx ?_ | refine .al ?_ | refine .st ?_ | refine .ad ?_ | refine .sb ?_ | refine .mf ?_ | refine .cl ?_ | refine .cw ?_ | refine .ck ?_
        | refine A.shr rfl rfl (by decide) shr_one ?_ | fail
      exact FinR.ret1 rfl (Weak.refl _)
  | false =>
    rw [c] at hr
    rw [if_neg (fun h => by cases h.1)]
    repeat' first
      | refine .br ?_
      | refine .seq ?_ | refine .rg ?_ | refine .rd ?_ | refine .block ?_ | refine .scope ?_ | refine .skip ?_ | refine .label ?_ | refine .exit ?_ | refine .ret ?_
      | refine .ct ?_ | refine .cf ?_ | refine .cy ?_ | refine .cn ?_ | (refine .cond rfl ?_ ?_ <;> intro hc)
      | refine A.nil_seq ?_ | refine .nl ?_ | refine .dd ?_ | refine .ys ?_ | refine .no ?_ | (refine A.guard rfl ?_ ?_ <;> intro hc)
      | refine .lb ?_ | refine .ln ?_ | refine .ls ?_ | refine .pv ?_ | refine .ix ?_ | refine .pt ?_ | refine .pf ?_ | refine .bx ?_ | refine .al ?_ | refine .st ?_ | refine .ad ?_ | refine .sb ?_ | refine .mf ?_ | refine .cl ?_ | refine .cw ?_ | refine .ck ?_ | fail
    exact FinR.ret1 rfl (Weak.refl _)
theorem shl_one {m : Int} (h0 : 0 ≤ m) (h1 : m < 1073741824) : IntKind.i64.wrap (m * 2 ^ min (1 : Int).toNat IntKind.i64.bits) = m * 2 := by
  rw [show (2 : Int) ^ min (1 : Int).toNat IntKind.i64.bits = 2 from rfl, IntWalk.i64_in _ (by omega)]
def listR (t : Typ) : Typ × Bool := if rightT t = true ∧ t.lists ≠ 4 then (listT t, true) else (zeroT, false)
theorem wList (t : Typ) (hs : t.name.length ≤ 9223372036854775806) : PFn Tryd.prog 39 [t.enc] (.tup [(listR t).1.enc, .bool (listR t).2]) := by
  have hr := wRight t hs
  refine AFn.plain rfl rfl (AFn.enterR [.cell 2 60, .tmp 3] Tryd.func39 rfl rfl rfl rfl rfl ?_)
  unfold listR
  cases c : rightT t with
  | true =>
    rw [c] at hr
    obtain ⟨_, q1, q2, q3, q4⟩ := rightT_iff.1 c
    have q5 := musts_lt c
    by_cases h0 : t.lists = 4
    · have e0 : (t.lists == 4) = true := by simp [h0]
      rw [if_neg (fun h => h.2 h0)]
      repeat' first
        | refine .br ?_
        | refine .seq ?_ | refine .rg ?_ | refine .rd ?_ | refine .block ?_ | refine .scope ?_ | refine .skip ?_ | refine .label ?_ | refine .exit ?_ | refine .ret ?_
        | refine .ct ?_ | refine .cf ?_ | refine .cy ?_ | refine .cn ?_ | (refine .cond rfl ?_ ?_ <;> intro hc)
        | refine A.nil_seq ?_ | refine .nl ?_ | refine .dd ?_ | refine .ys ?_ | refine .no ?_ | (refine A.guard rfl ?_ ?_ <;> intro hc)
        | refine .lb ?_ | refine .ln ?_ | refine .ls ?_ | refine .pv ?_ | refine .ix ?_ | refine .pt ?_ | refine .pf ?_ | refine .bx ?_ | refine .al ?_ | refine .st ?_ | refine .ad ?_ | refine .sb ?_ | refine .mf ?_ | refine .cl ?_ | refine .cw ?_ | refine .ck ?_ | fail
      exact FinR.ret1 rfl (Weak.refl _)
    · have e0 : (t.lists == 4) = false := by simp [h0]
      rw [if_pos ⟨rfl, h0⟩]
      repeat' first
        | refine .br ?_
        | refine .seq ?_ | refine .rg ?_ | refine .rd ?_ | refine .block ?_ | refine .scope ?_ | refine .skip ?_ | refine .label ?_ | refine .exit ?_ | refine .ret ?_
        | refine .ct ?_ | refine .cf ?_ | refine .cy ?_ | refine .cn ?_ | (refine .cond rfl ?_ ?_ <;> intro hc)
        | refine A.nil_seq ?_ | refine .nl ?_ | refine .dd ?_ | refine .ys ?_ | refine .no ?_ | (refine A.guard rfl ?_ ?_ <;> intro hc)
        | refine .lb ?_ | refine .ln ?_ | refine .ls ?_ | refine .pv ?_ | refine .ix ?_ | refine .pt ?_ | refine .pf ?_ | refine .bx ?_ | refine .al ?_ | refine .st ?_ | refine .ad ?_ | refine .sb ?_ | refine .mf ?_ | refine .cl ?_ | refine .cw ?_ | refine .ck ?_
        | refine A.shl rfl rfl (by decide) (shl_one q3 (by omega)) ?_ | fail
      exact FinR.ret1 rfl (Weak.refl _)
  | false =>
    rw [c] at hr
    rw [if_neg (fun h => by cases h.1)]
    repeat' first
      | refine .br ?_
      | refine .seq ?_ | refine .rg ?_ | refine .rd ?_ | refine .block ?_ | refine .scope ?_ | refine .skip ?_ | refine .label ?_ | refine .exit ?_ | refine .ret ?_
      | refine .ct ?_ | refine .cf ?_ | refine .cy ?_ | refine .cn ?_ | (refine .cond rfl ?_ ?_ <;> intro hc)
      | refine A.nil_seq ?_ | refine .nl ?_ | refine .dd ?_ | refine .ys ?_ | refine .no ?_ | (refine A.guard rfl ?_ ?_ <;> intro hc)
      | refine .lb ?_ | refine .ln ?_ | refine .ls ?_ | refine .pv ?_ | refine .ix ?_ | refine .pt ?_ | refine .pf ?_ | refine .bx ?_ | refine .al ?_ | refine .st ?_ | refine .ad ?_ | refine .sb ?_ | refine .mf ?_ | refine .cl ?_ | refine .cw ?_ | refine .ck ?_ | fail
    exact FinR.ret1 rfl (Weak.refl _)
theorem or1 (m : Nat) (h : m < 32) : m ||| 1 = if m % 2 = 1 then m else m + 1 := by
  have : ∀ m : Fin 32, m.val ||| 1 = if m.val % 2 = 1 then m.val else m.val + 1 := by decide +kernel
  exact this ⟨m, h⟩
theorem wMust (t : Typ) (hs : t.name.length ≤ 9223372036854775806) : PFn Tryd.prog 43 [t.enc] (mustT t).enc := by
  have hr := wRight t hs
  refine AFn.plain rfl rfl (AFn.enterR [.cell 2 60] Tryd.func43 rfl rfl rfl rfl rfl ?_)
  unfold mustT
  cases c : rightT t with
  | true =>
    rw [c] at hr
    obtain ⟨_, q1, q2, q3, q4⟩ := rightT_iff.1 c
    have q5 := musts_lt c
    rw [if_pos rfl]
    repeat' first
      | refine .seq ?_ | refine .rg ?_ | refine .rd ?_ | refine .block ?_ | refine .scope ?_ | refine .skip ?_ | refine .label ?_ | refine .exit ?_ | refine .ret ?_
      | refine .ct ?_ | refine .cf ?_ | refine .cy ?_ | refine .cn ?_ | (refine .cond rfl ?_ ?_ <;> intro hc)
      | refine A.nil_seq ?_ | refine .nl ?_ | refine .dd ?_ | refine .ys ?_ | refine .no ?_ | (refine A.guard rfl ?_ ?_ <;> intro hc)
      | refine .lb ?_ | refine .ln ?_ | refine .ls ?_ | refine .pv ?_ | refine .ix ?_ | refine .pt ?_ | refine .pf ?_ | refine .bx ?_ | refine .al ?_ | refine .st ?_ | refine .ad ?_ | refine .sb ?_ | refine .mf ?_ | refine .cl ?_ | refine .cw ?_ | refine .ck ?_
      | refine A.bor (m := t.musts.toNat) (n := 1) rfl rfl (by omega) rfl (by omega) (by decide) (or1 _ (by omega)) ?_ | fail
    refine FinR.ret1 rfl (Weak.eq ?_)
    unfold Typ.enc
    simp only [AV.agg.injEq, List.cons.injEq, AV.int.injEq, true_and, and_true]
    split <;> split <;> omega
  | false =>
    rw [c] at hr
    rw [if_neg (by decide)]
    repeat' first
      | refine .seq ?_ | refine .rg ?_ | refine .rd ?_ | refine .block ?_ | refine .scope ?_ | refine .skip ?_ | refine .label ?_ | refine .exit ?_ | refine .ret ?_
      | refine .ct ?_ | refine .cf ?_ | refine .cy ?_ | refine .cn ?_ | (refine .cond rfl ?_ ?_ <;> intro hc)
      | refine A.nil_seq ?_ | refine .nl ?_ | refine .dd ?_ | refine .ys ?_ | refine .no ?_ | (refine A.guard rfl ?_ ?_ <;> intro hc)
      | refine .lb ?_ | refine .ln ?_ | refine .ls ?_ | refine .pv ?_ | refine .ix ?_ | refine .pt ?_ | refine .pf ?_ | refine .bx ?_ | refine .al ?_ | refine .st ?_ | refine .ad ?_ | refine .sb ?_ | refine .mf ?_ | refine .cl ?_ | refine .cw ?_ | refine .ck ?_ | fail
    exact FinR.ret1 rfl (Weak.refl _)
theorem clr1 {m : Int} (h0 : 0 ≤ m) (h : m < 32) : IntKind.i64.wrap (((BitVec.ofInt IntKind.i64.bits m) &&& ~~~(BitVec.ofInt IntKind.i64.bits 1)).toNat : Int) = if m % 2 = 1 then m - 1 else m := by
  have : ∀ m : Fin 32, IntKind.i64.wrap (((BitVec.ofInt IntKind.i64.bits (m.val : Int)) &&& ~~~(BitVec.ofInt IntKind.i64.bits 1)).toNat : Int) = if (m.val : Int) % 2 = 1 then (m.val : Int) - 1 else (m.val : Int) := by decide +kernel
  have e := this ⟨m.toNat, by omega⟩
  simp only [Int.toNat_of_nonneg h0] at e
  exact e
theorem wBare (t : Typ) (hs : t.name.length ≤ 9223372036854775806) : PFn Tryd.prog 42 [t.enc] (bareT t).enc := by
  have hr := wRight t hs
  refine AFn.plain rfl rfl (AFn.enterR [.cell 2 60] Tryd.func42 rfl rfl rfl rfl rfl ?_)
  unfold bareT
  cases c : rightT t with
  | true =>
    rw [c] at hr
    obtain ⟨_, q1, q2, q3, q4⟩ := rightT_iff.1 c
    have q5 := musts_lt c
    rw [if_pos rfl]
    repeat' first
      | refine .seq ?_ | refine .rg ?_ | refine .rd ?_ | refine .block ?_ | refine .scope ?_ | refine .skip ?_ | refine .label ?_ | refine .exit ?_ | refine .ret ?_
      | refine .ct ?_ | refine .cf ?_ | refine .cy ?_ | refine .cn ?_ | (refine .cond rfl ?_ ?_ <;> intro hc)
      | refine A.nil_seq ?_ | refine .nl ?_ | refine .dd ?_ | refine .ys ?_ | refine .no ?_ | (refine A.guard rfl ?_ ?_ <;> intro hc)
      | refine .lb ?_ | refine .ln ?_ | refine .ls ?_ | refine .pv ?_ | refine .ix ?_ | refine .pt ?_ | refine .pf ?_ | refine .bx ?_ | refine .al ?_ | refine .st ?_ | refine .ad ?_ | refine .sb ?_ | refine .mf ?_ | refine .cl ?_ | refine .cw ?_ | refine .ck ?_
      | refine A.bclr rfl rfl (clr1 q3 q5) ?_ | fail
    exact FinR.ret1 rfl (Weak.refl _)
  | false =>
    rw [c] at hr
    rw [if_neg (by decide)]
    repeat' first
      | refine .seq ?_ | refine .rg ?_ | refine .rd ?_ | refine .block ?_ | refine .scope ?_ | refine .skip ?_ | refine .label ?_ | refine .exit ?_ | refine .ret ?_
      | refine .ct ?_ | refine .cf ?_ | refine .cy ?_ | refine .cn ?_ | (refine .cond rfl ?_ ?_ <;> intro hc)
      | refine A.nil_seq ?_ | refine .nl ?_ | refine .dd ?_ | refine .ys ?_ | refine .no ?_ | (refine A.guard rfl ?_ ?_ <;> intro hc)
      | refine .lb ?_ | refine .ln ?_ | refine .ls ?_ | refine .pv ?_ | refine .ix ?_ | refine .pt ?_ | refine .pf ?_ | refine .bx ?_ | refine .al ?_ | refine .st ?_ | refine .ad ?_ | refine .sb ?_ | refine .mf ?_ | refine .cl ?_ | refine .cw ?_ | refine .ck ?_ | fail
    exact FinR.ret1 rfl (Weak.refl _)
end Go.Proofs.YtijlmchfepjjkaaDoor
namespace Go.Proofs.YtijlmchfepjjkaaDoor
open Go Go.Av
set_option maxRecDepth 100000
set_option maxHeartbeats 16000000
set_option linter.unusedVariables false
set_option linter.unusedSimpArgs false
attribute [local irreducible] HCode AOps PFn AFn Av.Step TStep

theorem rStart (c : UInt8) : PFn Tryd.prog 139 [.int .u8 (c.toNat : Int)] (.bool (letC c)) := by
  refine AFn.plain rfl rfl (AFn.enter [2] Tryd.func139 rfl rfl rfl rfl rfl (by decide) ?_)
  repeat' first
    | refine .seq ?_ | refine .rg ?_ | refine .rd ?_ | refine .block ?_ | refine .scope ?_ | refine .skip ?_ | refine .label ?_ | refine .exit ?_ | refine .ret ?_
    | refine .ct ?_ | refine .cf ?_ | refine .cy ?_ | refine .cn ?_ | (refine .cond rfl ?_ ?_ <;> intro hc)
    | refine A.nil_seq ?_ | refine .nl ?_ | refine .dd ?_ | refine .ys ?_ | refine .no ?_ | (refine A.guard rfl ?_ ?_ <;> intro hc)
    | refine .lb ?_ | refine .ln ?_ | refine .ls ?_ | refine .pv ?_ | refine .ix ?_ | refine .pt ?_ | refine .pf ?_ | refine .bx ?_ | refine .al ?_ | refine .st ?_ | refine .ad ?_ | refine .sb ?_ | refine .mf ?_ | refine .cl ?_ | refine .cw ?_ | refine .ck ?_ | fail
  all_goals
    refine Fin.ret1 rfl (Weak.eq (congrArg AV.bool ?_))
    unfold letC; rw [Bool.eq_iff_iff]; simp at *; omega
theorem rDigit (c : UInt8) : PFn Tryd.prog 140 [.int .u8 (c.toNat : Int)] (.bool (digC c)) := by
  refine AFn.plain rfl rfl (AFn.enter [2] Tryd.func140 rfl rfl rfl rfl rfl (by decide) ?_)
  repeat' first
    | refine .seq ?_ | refine .rg ?_ | refine .rd ?_ | refine .block ?_ | refine .scope ?_ | refine .skip ?_ | refine .label ?_ | refine .exit ?_ | refine .ret ?_
    | refine .ct ?_ | refine .cf ?_ | refine .cy ?_ | refine .cn ?_ | (refine .cond rfl ?_ ?_ <;> intro hc)
    | refine A.nil_seq ?_ | refine .nl ?_ | refine .dd ?_ | refine .ys ?_ | refine .no ?_ | (refine A.guard rfl ?_ ?_ <;> intro hc)
    | refine .lb ?_ | refine .ln ?_ | refine .ls ?_ | refine .pv ?_ | refine .ix ?_ | refine .pt ?_ | refine .pf ?_ | refine .bx ?_ | refine .al ?_ | refine .st ?_ | refine .ad ?_ | refine .sb ?_ | refine .mf ?_ | refine .cl ?_ | refine .cw ?_ | refine .ck ?_ | fail
  all_goals
    refine Fin.ret1 rfl (Weak.eq (congrArg AV.bool ?_))
    unfold digC; rw [Bool.eq_iff_iff]; simp at *; omega
theorem rName (s : Str) (hs : s.length ≤ 9223372036854775806) : PFn Tryd.prog 122 [.str s] (.bool (nameB s)) := by
  refine AFn.plain rfl rfl (AFn.enter [2] Tryd.func122 rfl rfl rfl rfl rfl (by decide) ?_)
  by_cases h0 : s = []
  · subst h0
    repeat' first
      | refine .seq ?_ | refine .rg ?_ | refine .rd ?_ | refine .block ?_ | refine .scope ?_ | refine .skip ?_ | refine .label ?_ | refine .exit ?_ | refine .ret ?_
      | refine .ct ?_ | refine .cf ?_ | refine .cy ?_ | refine .cn ?_ | (refine .cond rfl ?_ ?_ <;> intro hc)
      | refine A.nil_seq ?_ | refine .nl ?_ | refine .dd ?_ | refine .ys ?_ | refine .no ?_ | (refine A.guard rfl ?_ ?_ <;> intro hc)
      | refine .lb ?_ | refine .ln ?_ | refine .ls ?_ | refine .pv ?_ | refine .ix ?_ | refine .pt ?_ | refine .pf ?_ | refine .bx ?_ | refine .al ?_ | refine .st ?_ | refine .ad ?_ | refine .sb ?_ | refine .mf ?_ | refine .cl ?_ | refine .cw ?_ | refine .ck ?_ | fail
    exact Fin.ret1 rfl (Weak.refl _)
  · have e0 : (s == []) = false := by simpa using h0
    have hl : 0 < s.length := List.length_pos_iff.2 h0
    have x0 : s[0]? = some s[0] := get_str hl
    have hst := rStart s[0]
    have hn : nameB s = (letC s[0] && nmC false (s.drop 1)) := by
      cases s with
      | nil => exact absurd rfl h0
      | cons c r => simp [nameB, nmC]
    repeat' first
      | refine .seq ?_ | refine .rg ?_ | refine .rd ?_ | refine .block ?_ | refine .scope ?_ | refine .skip ?_ | refine .label ?_ | refine .exit ?_ | refine .ret ?_
      | refine .ct ?_ | refine .cf ?_ | refine .cy ?_ | refine .cn ?_ | (refine .cond rfl ?_ ?_ <;> intro hc)
      | refine A.nil_seq ?_ | refine .nl ?_ | refine .dd ?_ | refine .ys ?_ | refine .no ?_ | (refine A.guard rfl ?_ ?_ <;> intro hc)
      | refine .lb ?_ | refine .ln ?_ | refine .ls ?_ | refine .pv ?_ | refine .ix ?_ | refine .pt ?_ | refine .pf ?_ | refine .bx ?_ | refine .al ?_ | refine .st ?_ | refine .ad ?_ | refine .sb ?_ | refine .mf ?_ | refine .cl ?_ | refine .cw ?_ | refine .ck ?_
      | refine .is ?_ | fail
    · refine Fin.ret1 rfl (Weak.eq (congrArg AV.bool ?_))
      rw [hn]; simp_all
    · refine HCode.forK (s.length - 1) (fun k => [(3, .int .i64 ((k + 1 : Nat) : Int)), (0, .str s)]) (fun _ => ⟨[], []⟩) (fun k => nameB s = nmC false (s.drop (k + 1))) ⟨rfl, rfl, trivial⟩ rfl (by rw [hn]; simp_all) fun k hk hp => ?_
      by_cases h1 : k + 1 < s.length
      · have d1 : decide (((k + 1 : Nat) : Int) < (s.length : Int)) = true := decide_eq_true (by omega)
        have x1 := get_str h1
        have h2 := rStart s[k + 1]
        have h3 := rDigit s[k + 1]
        have hd := nmC_drop (z := false) h1
        repeat' first
          | refine .seq ?_ | refine .rg ?_ | refine .rd ?_ | refine .block ?_ | refine .scope ?_ | refine .skip ?_ | refine .label ?_ | refine .exit ?_ | refine .ret ?_
          | refine .ct ?_ | refine .cf ?_ | refine .cy ?_ | refine .cn ?_ | (refine .cond rfl ?_ ?_ <;> intro hc)
          | refine A.nil_seq ?_ | refine .nl ?_ | refine .dd ?_ | refine .ys ?_ | refine .no ?_ | (refine A.guard rfl ?_ ?_ <;> intro hc)
          | refine .lb ?_ | refine .ln ?_ | refine .ls ?_ | refine .pv ?_ | refine .ix ?_ | refine .pt ?_ | refine .pf ?_ | refine .bx ?_ | refine .al ?_ | refine .st ?_ | refine .ad ?_ | refine .sb ?_ | refine .mf ?_ | refine .cl ?_ | refine .cw ?_ | refine .ck ?_
          | refine .is ?_ | fail
        all_goals first
          | (refine Fin.ret1 rfl (Weak.eq (congrArg AV.bool ?_)); rw [hp, hd]; simp_all; done)
          | (exact ⟨by omega, ⟨rfl, rfl, trivial⟩, by simp [belowS, AV.low], rfl, rfl, by rw [hp, hd]; simp_all⟩)
      · have d1 : decide (((k + 1 : Nat) : Int) < (s.length : Int)) = false := decide_eq_false (by omega)
        repeat' first
          | refine .seq ?_ | refine .rg ?_ | refine .rd ?_ | refine .block ?_ | refine .scope ?_ | refine .skip ?_ | refine .label ?_ | refine .exit ?_ | refine .ret ?_
          | refine .ct ?_ | refine .cf ?_ | refine .cy ?_ | refine .cn ?_ | (refine .cond rfl ?_ ?_ <;> intro hc)
          | refine A.nil_seq ?_ | refine .nl ?_ | refine .dd ?_ | refine .ys ?_ | refine .no ?_ | (refine A.guard rfl ?_ ?_ <;> intro hc)
          | refine .lb ?_ | refine .ln ?_ | refine .ls ?_ | refine .pv ?_ | refine .ix ?_ | refine .pt ?_ | refine .pf ?_ | refine .bx ?_ | refine .al ?_ | refine .st ?_ | refine .ad ?_ | refine .sb ?_ | refine .mf ?_ | refine .cl ?_ | refine .cw ?_ | refine .ck ?_ | fail
        refine Fin.ret1 rfl (Weak.eq (congrArg AV.bool ?_))
        rw [hp, List.drop_eq_nil_of_le (by omega), nmC]
theorem rHas (l : List Str) (x : Str) (hl : l.length ≤ 9223372036854775807) : PFn Tryd.prog 47 [.slice (l.map AV.str) .no, .str x] (.bool (decide (x ∈ l))) := by
  refine AFn.plain rfl (by simp [AV.closed, AV.closedL, str_closedL]) (AFn.enter [4] Tryd.func47 rfl rfl rfl rfl rfl (by decide) ?_)
  repeat' first
    | refine .seq ?_ | refine .rg ?_ | refine .rd ?_ | refine .block ?_ | refine .scope ?_ | refine .skip ?_ | refine .label ?_ | refine .exit ?_ | refine .ret ?_
    | refine .ct ?_ | refine .cf ?_ | refine .cy ?_ | refine .cn ?_ | (refine .cond rfl ?_ ?_ <;> intro hc)
    | refine A.nil_seq ?_ | refine .nl ?_ | refine .dd ?_ | refine .ys ?_ | refine .no ?_ | (refine A.guard rfl ?_ ?_ <;> intro hc)
    | refine .lb ?_ | refine .ln ?_ | refine .ls ?_ | refine .pv ?_ | refine .ix ?_ | refine .pt ?_ | refine .pf ?_ | refine .bx ?_ | refine .al ?_ | refine .st ?_ | refine .ad ?_ | refine .sb ?_ | refine .mf ?_ | refine .cl ?_ | refine .cw ?_ | refine .ck ?_ | fail
  refine HCode.forK l.length (fun k => [(5, .int .i64 k), (0, .slice (l.map AV.str) .no), (1, .str x)]) (fun _ => ⟨[], []⟩) (fun k => decide (x ∈ l) = decide (x ∈ l.drop k)) ⟨rfl, rfl, rfl, trivial⟩ rfl rfl fun k hk hp => ?_
  by_cases h1 : k < l.length
  · have d1 : decide ((k : Int) < (l.length : Int)) = true := by simp [h1]
    have x1 := map_get' (f := AV.str) h1
    have hd : (x ∈ l.drop k) ↔ (x = l[k] ∨ x ∈ l.drop (k + 1)) := by rw [List.drop_eq_getElem_cons h1, List.mem_cons]
    repeat' first
      | refine .seq ?_ | refine .rg ?_ | refine .rd ?_ | refine .block ?_ | refine .scope ?_ | refine .skip ?_ | refine .label ?_ | refine .exit ?_ | refine .ret ?_
      | refine .ct ?_ | refine .cf ?_ | refine .cy ?_ | refine .cn ?_ | (refine .cond rfl ?_ ?_ <;> intro hc)
      | refine A.nil_seq ?_ | refine .nl ?_ | refine .dd ?_ | refine .ys ?_ | refine .no ?_ | (refine A.guard rfl ?_ ?_ <;> intro hc)
      | refine .lb ?_ | refine .ln ?_ | refine .ls ?_ | refine .pv ?_ | refine .ix ?_ | refine .pt ?_ | refine .pf ?_ | refine .bx ?_ | refine .al ?_ | refine .st ?_ | refine .ad ?_ | refine .sb ?_ | refine .mf ?_ | refine .cl ?_ | refine .cw ?_ | refine .ck ?_ | fail
    · refine Fin.ret1 rfl (Weak.eq (congrArg AV.bool ?_))
      rw [hp, Eq.comm, decide_eq_true_eq, hd]
      exact .inl (by simpa using Eq.symm (by simpa using hc))
    · exact ⟨h1, ⟨rfl, rfl, rfl, trivial⟩, by simp [belowS, AV.low], rfl, rfl, by
        rw [hp, decide_eq_decide, hd]
        have : ¬ x = l[k] := fun e => by rw [← e] at hc; simp at hc
        simp [this]⟩
  · have d1 : decide ((k : Int) < (l.length : Int)) = false := by simp; omega
    repeat' first
      | refine .seq ?_ | refine .rg ?_ | refine .rd ?_ | refine .block ?_ | refine .scope ?_ | refine .skip ?_ | refine .label ?_ | refine .exit ?_ | refine .ret ?_
      | refine .ct ?_ | refine .cf ?_ | refine .cy ?_ | refine .cn ?_ | (refine .cond rfl ?_ ?_ <;> intro hc)
      | refine A.nil_seq ?_ | refine .nl ?_ | refine .dd ?_ | refine .ys ?_ | refine .no ?_ | (refine A.guard rfl ?_ ?_ <;> intro hc)
      | refine .lb ?_ | refine .ln ?_ | refine .ls ?_ | refine .pv ?_ | refine .ix ?_ | refine .pt ?_ | refine .pf ?_ | refine .bx ?_ | refine .al ?_ | refine .st ?_ | refine .ad ?_ | refine .sb ?_ | refine .mf ?_ | refine .cl ?_ | refine .cw ?_ | refine .ck ?_ | fail
    refine Fin.ret1 rfl (Weak.eq (congrArg AV.bool ?_))
    rw [hp, List.drop_eq_nil_of_le (by omega)]; simp
theorem shl_two {l : Int} (h0 : 0 ≤ l) (h4 : l ≤ 4) : IntKind.i64.wrap (2 * 2 ^ min (IntKind.u64.wrap l).toNat IntKind.i64.bits) = 2 ^ (l.toNat + 1) := by
  have e : l = 0 ∨ l = 1 ∨ l = 2 ∨ l = 3 ∨ l = 4 := by omega
  rcases e with rfl | rfl | rfl | rfl | rfl <;> rfl
theorem wrap_u64 {l : Int} (h0 : 0 ≤ l) (h4 : l ≤ 4) : 0 ≤ IntKind.u64.wrap l := by
  have e : l = 0 ∨ l = 1 ∨ l = 2 ∨ l = 3 ∨ l = 4 := by omega
  rcases e with rfl | rfl | rfl | rfl | rfl <;> decide
end Go.Proofs.YtijlmchfepjjkaaDoor
