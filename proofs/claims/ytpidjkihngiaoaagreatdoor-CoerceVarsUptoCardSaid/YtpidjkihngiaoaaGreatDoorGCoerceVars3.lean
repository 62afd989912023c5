/-
  What the packages wrap, defs, literal compute, in plain words; plain laws of it.
  What the package coerce computes, in plain words.
  Rules for and, or, neg on integers.
  The package wrap: Right, bit, Is, Item, List, Must, Bare.
  The first place where something holds, in plain words.
-/
import Derived.Test.YtpidjkihngiaoaaGreatDoorGCoerceVars1
import Derived.Test.YtpidjkihngiaoaaGreatDoorGCoerceVars2
import Derived.Lib.ItoaNum
import Derived.Test.YtpidjkihngiaoaaGreatDoorAvMap
namespace Go.Proofs.YtpidjkihngiaoaaGreatDoor
open Go Go.Av
set_option maxRecDepth 100000
set_option linter.unusedVariables false
set_option linter.unusedSimpArgs false

/-- May a type be? -/
def rightT (t : Typ) : Bool := nameB t.name && (decide (0 ≤ t.lists) && (decide (t.lists ≤ 4) && (decide (0 ≤ t.musts) && decide (t.musts < 2 ^ (t.lists.toNat + 1)))))
/-- Must it be there? -/
def isT (t : Typ) : Bool := rightT t && decide (t.musts % 2 = 1)
def itemT (t : Typ) : Typ := ⟨t.name, t.lists - 1, t.musts / 2⟩
def zeroT : Typ := ⟨[], 0, 0⟩
def itemR (t : Typ) : Typ × Bool := if rightT t = true ∧ t.lists ≠ 0 then (itemT t, true) else (zeroT, false)
def listT (t : Typ) : Typ := ⟨t.name, t.lists + 1, t.musts * 2⟩
def mustT (t : Typ) : Typ := if rightT t = true then ⟨t.name, t.lists, if t.musts % 2 = 1 then t.musts else t.musts + 1⟩ else t
def bareT (t : Typ) : Typ := if rightT t = true then ⟨t.name, t.lists, if t.musts % 2 = 1 then t.musts - 1 else t.musts⟩ else t
theorem rightT_iff {t : Typ} : rightT t = true ↔ nameB t.name = true ∧ 0 ≤ t.lists ∧ t.lists ≤ 4 ∧ 0 ≤ t.musts ∧ t.musts < 2 ^ (t.lists.toNat + 1) := by
  simp [rightT, Bool.and_eq_true, and_assoc]
theorem rightT_item {t : Typ} (h : rightT t = true) (hl : t.lists ≠ 0) : rightT (itemT t) = true := by
  rw [rightT_iff] at *
  obtain ⟨h1, h2, h3, h4, h5⟩ := h
  have e : t.lists.toNat = (t.lists - 1).toNat + 1 := by omega
  refine ⟨h1, ?_, ?_, ?_, ?_⟩
  · show 0 ≤ t.lists - 1; omega
  · show t.lists - 1 ≤ 4; omega
  · show 0 ≤ t.musts / 2; omega
  · show t.musts / 2 < 2 ^ ((t.lists - 1).toNat + 1)
    rw [e, Int.pow_succ] at h5
    omega

/-- The four names that are always there. -/
def sInt : Str := [73, 110, 116]
def sString : Str := [83, 116, 114, 105, 110, 103]
def sBoolean : Str := [66, 111, 111, 108, 101, 97, 110]
def sID : Str := [73, 68]
def scalarB (n : Str) : Bool := n == sInt || n == sString || n == sBoolean || n == sID
def zeroD : Dfn := ⟨0, [], [], [], [], []⟩
def findO (s : Sch) (name : Str) : Option Dfn := if scalarB name = true then some ⟨0, name, [], [], [], []⟩ else s.defs.find? (fun d => d.name == name)
def findR (s : Sch) (name : Str) : Dfn × Bool := match findO s name with
  | some d => (d, true)
  | none => (zeroD, false)
/-- Is there a definition, of one of these kinds? -/
def kindB (s : Sch) (name : Str) (ks : List Int) : Bool := (findR s name).2 && decide ((findR s name).1.kind ∈ ks)
def leafB (s : Sch) (name : Str) : Bool := kindB s name [0, 4]
def compB (s : Sch) (name : Str) : Bool := kindB s name [1, 2, 3]
def entryB (s : Sch) (name : Str) : Bool := kindB s name [0, 4, 5]
abbrev zeroVal : Val := val0
def zeroP : Par := ⟨[], zeroT, false, zeroVal⟩
def parO (l : List Par) (name : Str) : Option Par := l.find? (fun p => p.name == name)
def parR (l : List Par) (name : Str) : Par × Bool := match parO l name with
  | some p => (p, true)
  | none => (zeroP, false)
def reqB (p : Par) : Bool := isT p.t && !p.has
/-- Are all there that must be? -/
def needsB (m : List Mem) : List Par → Bool
  | [] => true
  | p :: l => ((m.any fun x => x.name == p.name) || !reqB p) && needsB m l
def scalFit (name : Str) (k n : Int) : Bool :=
  if name = sInt then k == 2 && (decide (-2147483648 ≤ n) && decide (n ≤ 2147483647)) else if name = sString then k == 4 else if name = sBoolean then k == 1 else if name = sID then k == 4 || k == 2 else false
def bareB (s : Sch) (name : Str) (k n : Int) (str : Str) (inp : List Par → Bool) : Bool :=
  match findO s name with
  | none => false
  | some d => if d.kind = 4 then k == 5 && decide (str ∈ d.parts) else if d.kind = 5 then k == 7 && inp d.params else if d.kind = 0 then scalFit name k n else false
mutual
/-- May a good value stand where a type is asked for? w: it is an item of a list that is written. -/
def fitsV (s : Sch) : Val → Typ → Bool → Bool
  | .mk k n str l m, t, w =>
    if k = 8 then rightT t else if k = 0 then rightT t && !isT t else rightT t &&
      (if t.lists = 0 then bareB s t.name k n str (fun ps => fitsM s ps m [] && needsB m ps) else if k = 6 then fitsL s l (itemT t) else !w && bareB s t.name k n str (fun ps => fitsM s ps m [] && needsB m ps))
def fitsL (s : Sch) : List Val → Typ → Bool
  | [], _ => true
  | v :: l, t => fitsV s v t true && fitsL s l t
def fitsM (s : Sch) (ps : List Par) : List Mem → List Str → Bool
  | [], _ => true
  | .mk nm v :: m, seen => (match parO ps nm with | none => false | some p => fitsV s v p.t false) && (!decide (nm ∈ seen) && fitsM s ps m (seen ++ [nm]))
end
def inputB (s : Sch) (ps : List Par) (v : Val) : Bool := v.kind == 7 && (fitsM s ps v.m [] && needsB v.m ps)
def bareV (s : Sch) (name : Str) (v : Val) : Bool := bareB s name v.kind v.n v.s (fun ps => fitsM s ps v.m [] && needsB v.m ps)
theorem fitsV_eq (s : Sch) (v : Val) (t : Typ) (w : Bool) : fitsV s v t w = if v.kind = 8 then rightT t else if v.kind = 0 then rightT t && !isT t else rightT t &&
      (if t.lists = 0 then bareV s t.name v else if v.kind = 6 then fitsL s v.l (itemT t) else !w && bareV s t.name v) := by
  cases v; rw [fitsV]; rfl
theorem fitsL_drop {s : Sch} {t : Typ} {l : List Val} {k : Nat} (h : k < l.length) : fitsL s (l.drop k) t = (fitsV s l[k] t true && fitsL s (l.drop (k + 1)) t) := by
  rw [List.drop_eq_getElem_cons h, fitsL]
theorem fitsM_drop {s : Sch} {ps : List Par} {l : List Mem} {k : Nat} (h : k < l.length) : fitsM s ps (l.drop k) ((l.take k).map Mem.name) =
    ((match parO ps l[k].name with | none => false | some p => fitsV s l[k].v p.t false) && (!decide (l[k].name ∈ (l.take k).map Mem.name) && fitsM s ps (l.drop (k + 1)) ((l.take (k + 1)).map Mem.name))) := by
  rw [List.drop_eq_getElem_cons h, List.take_succ_eq_append_getElem h, List.map_append]
  cases hx : l[k]; rw [fitsM]; rfl
/-- What is no list may stand for a list by itself, but not within one. -/
theorem fitsV_down {s : Sch} {v : Val} {t : Typ} {w : Bool} (h8 : v.kind ≠ 8) (h0 : v.kind ≠ 0) (h6 : v.kind ≠ 6) (hr : rightT t = true) (hl : t.lists ≠ 0) : fitsV s v t w = (!w && fitsV s v (itemT t) false) := by
  rw [fitsV_eq, fitsV_eq s v (itemT t), if_neg h8, if_neg h0, if_neg hl, if_neg h6, if_neg h8, if_neg h0, if_neg h6, hr, rightT_item hr hl]
  simp only [Bool.true_and, Bool.not_false, ite_self]
  rfl
theorem fitsV_list {s : Sch} {v : Val} {t : Typ} {w : Bool} (h6 : v.kind = 6) (hr : rightT t = true) (hl : t.lists ≠ 0) : fitsV s v t w = fitsL s v.l (itemT t) := by
  rw [fitsV_eq, if_neg (by omega), if_neg (by omega), if_neg hl, if_pos h6, hr]; rfl
theorem fitsV_bare {s : Sch} {v : Val} {t : Typ} {w : Bool} (h8 : v.kind ≠ 8) (h0 : v.kind ≠ 0) (hr : rightT t = true) (hl : t.lists = 0) : fitsV s v t w = bareV s t.name v := by
  rw [fitsV_eq, if_neg h8, if_neg h0, if_pos hl, hr]; rfl
theorem fitsV_wrong {s : Sch} {v : Val} {t : Typ} {w : Bool} (hr : rightT t = false) : fitsV s v t w = false := by
  rw [fitsV_eq, hr]; simp
/-- literal.Right -/
def litR (s : Sch) (t : Typ) (v : Val) : Bool := allV good v && fitsV s v t false

/-! Where variables stand. -/
mutual
/-- .. as the program reckons it. -/
def spotsP (s : Sch) : Val → Typ → Bool → List Spt
  | .mk k n str l m, t, has =>
    if k = 8 then [⟨str, t, has⟩] else if k = 6 then (if rightT t = true ∧ t.lists ≠ 0 then spotsPL s l (itemT t) else []) else if k = 7 then spotsPM s m (findR s t.name).1.params else []
def spotsPL (s : Sch) : List Val → Typ → List Spt
  | [], _ => []
  | v :: l, t => spotsP s v t false ++ spotsPL s l t
def spotsPM (s : Sch) : List Mem → List Par → List Spt
  | [], _ => []
  | .mk nm v :: m, ps => (match parO ps nm with | none => [] | some p => spotsP s v p.t p.has) ++ spotsPM s m ps
end
mutual
/-- .. as the page reckons it. -/
def spotsR (s : Sch) : Val → Typ → Bool → List Spt
  | .mk k n str l m, t, has =>
    if k = 8 then [⟨str, t, has⟩] else if k = 6 then (if rightT t = true ∧ t.lists ≠ 0 then spotsRL s l (itemT t) else []) else if k = 7 then spotsRM s m (findR s t.name).1.params else []
def spotsRL (s : Sch) : List Val → Typ → List Spt
  | [], _ => []
  | v :: l, t => spotsR s v t false ++ spotsRL s l t
def spotsRM (s : Sch) : List Mem → List Par → List Spt
  | [], _ => []
  | .mk nm v :: m, ps => spotsR s v (parR ps nm).1.t (parR ps nm).1.has ++ spotsRM s m ps
end
theorem bareB_six {s : Sch} {name : Str} {k n : Int} {str : Str} {inp : List Par → Bool} (h : bareB s name k n str inp = true) : k ≠ 6 := by
  rintro rfl
  unfold bareB at h
  split at h
  · cases h
  · split at h
    · simp at h
    · split at h
      · simp at h
      · split at h
        · unfold scalFit at h
          repeat' split at h
          all_goals simp at h
        · cases h
theorem bareB_seven {s : Sch} {name : Str} {n : Int} {str : Str} {inp : List Par → Bool} (h : bareB s name 7 n str inp = true) : inp (findR s name).1.params = true := by
  unfold bareB at h
  unfold findR
  split at h
  · cases h
  · rename_i d hd
    rw [hd]
    split at h
    · simp at h
    · split at h
      · simpa using h
      · split at h
        · unfold scalFit at h
          repeat' split at h
          all_goals simp at h
        · cases h
theorem fitsV_six {s : Sch} {n : Int} {str : Str} {l : List Val} {m : List Mem} {t : Typ} {w : Bool} (h : fitsV s (.mk 6 n str l m) t w = true) : rightT t = true ∧ t.lists ≠ 0 ∧ fitsL s l (itemT t) = true := by
  rw [fitsV, if_neg (by decide), if_neg (by decide)] at h
  simp only [Bool.and_eq_true] at h
  obtain ⟨h1, h2⟩ := h
  by_cases c : t.lists = 0
  · rw [if_pos c] at h2
    exact absurd rfl (bareB_six h2)
  · rw [if_neg c, if_pos trivial] at h2
    exact ⟨h1, c, h2⟩
theorem fitsV_seven {s : Sch} {n : Int} {str : Str} {l : List Val} {m : List Mem} {t : Typ} {w : Bool} (h : fitsV s (.mk 7 n str l m) t w = true) : fitsM s (findR s t.name).1.params m [] = true := by
  rw [fitsV, if_neg (by decide), if_neg (by decide)] at h
  simp only [Bool.and_eq_true] at h
  obtain ⟨h1, h2⟩ := h
  have h3 : bareB s t.name 7 n str (fun ps => fitsM s ps m [] && needsB m ps) = true := by
    by_cases c : t.lists = 0
    · rw [if_pos c] at h2; exact h2
    · rw [if_neg c, if_neg (by decide)] at h2
      simp only [Bool.and_eq_true] at h2
      exact h2.2
  have := bareB_seven h3
  simp only [Bool.and_eq_true] at this
  exact this.1
mutual
theorem spots_eq (s : Sch) : ∀ (v : Val) (t : Typ) (w has : Bool), fitsV s v t w = true → spotsR s v t has = spotsP s v t has
  | .mk k n str l m, t, w, has, h => by
    rw [spotsR, spotsP]
    by_cases h8 : k = 8
    · rw [if_pos h8, if_pos h8]
    · rw [if_neg h8, if_neg h8]
      by_cases h6 : k = 6
      · subst h6
        obtain ⟨h1, h2, h3⟩ := fitsV_six h
        rw [if_pos rfl, if_pos rfl, if_pos ⟨h1, h2⟩, if_pos ⟨h1, h2⟩, spots_eqL s l (itemT t) h3]
      · rw [if_neg h6, if_neg h6]
        by_cases h7 : k = 7
        · subst h7
          rw [if_pos rfl, if_pos rfl, spots_eqM s m _ [] (fitsV_seven h)]
        · rw [if_neg h7, if_neg h7]
theorem spots_eqL (s : Sch) : ∀ (l : List Val) (t : Typ), fitsL s l t = true → spotsRL s l t = spotsPL s l t
  | [], _, _ => by rw [spotsRL, spotsPL]
  | v :: l, t, h => by
    rw [fitsL, Bool.and_eq_true] at h
    rw [spotsRL, spotsPL, spots_eq s v t true false h.1, spots_eqL s l t h.2]
theorem spots_eqM (s : Sch) : ∀ (m : List Mem) (ps : List Par) (seen : List Str), fitsM s ps m seen = true → spotsRM s m ps = spotsPM s m ps
  | [], _, _, _ => by rw [spotsRM, spotsPM]
  | .mk nm v :: m, ps, seen, h => by
    rw [fitsM, Bool.and_eq_true, Bool.and_eq_true] at h
    obtain ⟨h1, h2, h3⟩ := h
    rw [spotsRM, spotsPM, spots_eqM s m ps _ h3]
    unfold parR
    cases hp : parO ps nm with
    | none => rw [hp] at h1; cases h1
    | some p =>
      rw [hp] at h1
      simp only
      rw [spots_eq s v p.t false p.has h1]
end

/-! The variables of a value, each once. -/
def addNew (l : List Str) (x : Str) : List Str := if x ∈ l then l else l ++ [x]
mutual
def varsV : Val → List Str → List Str
  | .mk k n str l m, acc => if k = 8 then addNew acc str else if k = 6 then varsL l acc else if k = 7 then varsM m acc else acc
def varsL : List Val → List Str → List Str
  | [], acc => acc
  | v :: l, acc => varsL l (varsV v acc)
def varsM : List Mem → List Str → List Str
  | [], acc => acc
  | .mk _ v :: m, acc => varsM m (varsV v acc)
end
mutual
theorem vars_spots (s : Sch) : ∀ (v : Val) (t : Typ) (w has : Bool) (acc : List Str), fitsV s v t w = true → varsV v acc = ((spotsP s v t has).map Spt.var).foldl addNew acc
  | .mk k n str l m, t, w, has, acc, h => by
    rw [varsV, spotsP]
    by_cases h8 : k = 8
    · rw [if_pos h8, if_pos h8]; rfl
    · rw [if_neg h8, if_neg h8]
      by_cases h6 : k = 6
      · subst h6
        obtain ⟨h1, h2, h3⟩ := fitsV_six h
        rw [if_pos rfl, if_pos rfl, if_pos ⟨h1, h2⟩, vars_spotsL s l (itemT t) acc h3]
      · rw [if_neg h6, if_neg h6]
        by_cases h7 : k = 7
        · subst h7
          rw [if_pos rfl, if_pos rfl, vars_spotsM s m _ [] acc (fitsV_seven h)]
        · rw [if_neg h7, if_neg h7]; rfl
theorem vars_spotsL (s : Sch) : ∀ (l : List Val) (t : Typ) (acc : List Str), fitsL s l t = true → varsL l acc = ((spotsPL s l t).map Spt.var).foldl addNew acc
  | [], _, _, _ => by rw [varsL, spotsPL]; rfl
  | v :: l, t, acc, h => by
    rw [fitsL, Bool.and_eq_true] at h
    rw [varsL, spotsPL, List.map_append, List.foldl_append, ← vars_spots s v t true false acc h.1, vars_spotsL s l t _ h.2]
theorem vars_spotsM (s : Sch) : ∀ (m : List Mem) (ps : List Par) (seen acc : List Str), fitsM s ps m seen = true → varsM m acc = ((spotsPM s m ps).map Spt.var).foldl addNew acc
  | [], _, _, _, _ => by rw [varsM, spotsPM]; rfl
  | .mk nm v :: m, ps, seen, acc, h => by
    rw [fitsM, Bool.and_eq_true, Bool.and_eq_true] at h
    obtain ⟨h1, h2, h3⟩ := h
    rw [varsM, spotsPM, List.map_append, List.foldl_append, vars_spotsM s m ps _ _ h3]
    cases hp : parO ps nm with
    | none => rw [hp] at h1; cases h1
    | some p =>
      rw [hp] at h1
      simp only
      rw [← vars_spots s v p.t false p.has acc h1]
end

/-! Plain laws. -/
theorem fitsV_two {s : Sch} {v : Val} {t u : Typ} {w : Bool} (h0 : v.kind ≠ 0) (ht : rightT t = true) (hu : rightT u = true) (hl : t.lists = u.lists) (hn : t.name = u.name) (hi : itemT t = itemT u) : fitsV s v t w = fitsV s v u w := by
  rw [fitsV_eq, fitsV_eq, ht, hu, hl, hn, hi, if_neg h0, if_neg h0]
theorem rightT_bits {t u : Typ} (ht : rightT t = true) (hn : u.name = t.name) (hl : u.lists = t.lists) (hm : u.musts / 2 = t.musts / 2) : rightT u = true := by
  rw [rightT_iff] at *
  obtain ⟨h1, h2, h3, h4, h5⟩ := ht
  rw [hn, hl]
  rw [Int.pow_succ] at h5 ⊢
  have h6 : t.musts / 2 < 2 ^ t.lists.toNat := by omega
  exact ⟨h1, h2, h3, by omega, by omega⟩
theorem bareT_name (t : Typ) : (bareT t).name = t.name ∧ (bareT t).lists = t.lists ∧ (bareT t).musts / 2 = t.musts / 2 := by
  unfold bareT
  split
  · refine ⟨rfl, rfl, ?_⟩
    show (if t.musts % 2 = 1 then t.musts - 1 else t.musts) / 2 = _
    split <;> omega
  · exact ⟨rfl, rfl, rfl⟩
theorem mustT_name (t : Typ) : (mustT t).name = t.name ∧ (mustT t).lists = t.lists ∧ (mustT t).musts / 2 = t.musts / 2 := by
  unfold mustT
  split
  · refine ⟨rfl, rfl, ?_⟩
    show (if t.musts % 2 = 1 then t.musts else t.musts + 1) / 2 = _
    split <;> omega
  · exact ⟨rfl, rfl, rfl⟩
theorem right_bareT {t : Typ} (h : rightT t = true) : rightT (bareT t) = true := rightT_bits h (bareT_name t).1 (bareT_name t).2.1 (bareT_name t).2.2
theorem right_mustT {t : Typ} (h : rightT t = true) : rightT (mustT t) = true := rightT_bits h (mustT_name t).1 (mustT_name t).2.1 (mustT_name t).2.2
theorem is_bareT {t : Typ} (h : rightT t = true) : isT (bareT t) = false := by
  unfold isT
  have e : (bareT t).musts % 2 = 0 := by
    unfold bareT
    rw [if_pos h]
    show (if t.musts % 2 = 1 then t.musts - 1 else t.musts) % 2 = 0
    split <;> omega
  rw [e]; simp
theorem is_mustT {t : Typ} (h : rightT t = true) : isT (mustT t) = true := by
  unfold isT
  have e : (mustT t).musts % 2 = 1 := by
    unfold mustT
    rw [if_pos h]
    show (if t.musts % 2 = 1 then t.musts else t.musts + 1) % 2 = 1
    split <;> omega
  rw [e, right_mustT h]; rfl
theorem item_same {t u : Typ} (hn : u.name = t.name) (hl : u.lists = t.lists) (hm : u.musts / 2 = t.musts / 2) : itemT u = itemT t := by
  unfold itemT; rw [hn, hl, hm]
theorem fits_bare_must {s : Sch} {v : Val} {t : Typ} {w : Bool} (h : rightT t = true) (h0 : v.kind ≠ 0) : fitsV s v (bareT t) w = fitsV s v (mustT t) w := by
  obtain ⟨a1, a2, a3⟩ := bareT_name t
  obtain ⟨b1, b2, b3⟩ := mustT_name t
  exact fitsV_two h0 (right_bareT h) (right_mustT h) (a2.trans b2.symm) (a1.trans b1.symm) ((item_same a1 a2 a3).trans (item_same b1 b2 b3).symm)
theorem fits_null {s : Sch} {v : Val} {t : Typ} {w : Bool} (h0 : v.kind = 0) : fitsV s v t w = (rightT t && !isT t) := by
  rw [fitsV_eq, if_neg (by omega), if_pos h0]
theorem lit_bare (s : Sch) (t : Typ) (v : Val) (h : rightT t = true) : (litR s (mustT t) v = true → litR s (bareT t) v = true) ∧ (v.kind ≠ 0 → litR s (bareT t) v = litR s (mustT t) v) ∧ litR s t zeroVal = !isT t := by
  refine ⟨fun hb => ?_, fun h0 => ?_, ?_⟩
  · unfold litR at *
    rw [Bool.and_eq_true] at *
    refine ⟨hb.1, ?_⟩
    by_cases h0 : v.kind = 0
    · rw [fits_null h0, right_bareT h, is_bareT h]; rfl
    · rw [fits_bare_must h h0]; exact hb.2
  · unfold litR
    rw [fits_bare_must h h0]
  · unfold litR
    rw [fits_null rfl, h]
    rw [show allV good zeroVal = true from rfl]; rfl
theorem right_listT {t : Typ} (h : rightT t = true) (hl : t.lists ≠ 4) : rightT (listT t) = true := by
  rw [rightT_iff] at *
  obtain ⟨h1, h2, h3, h4, h5⟩ := h
  refine ⟨h1, ?_, ?_, ?_, ?_⟩
  · show 0 ≤ t.lists + 1; omega
  · show t.lists + 1 ≤ 4; omega
  · show 0 ≤ t.musts * 2; omega
  · show t.musts * 2 < 2 ^ ((t.lists + 1).toNat + 1)
    rw [show (t.lists + 1).toNat = t.lists.toNat + 1 by omega, Int.pow_succ 2 (t.lists.toNat + 1)]
    omega
theorem item_listT (t : Typ) : itemT (listT t) = t := by
  unfold itemT listT
  have e1 : t.lists + 1 - 1 = t.lists := by omega
  have e2 : t.musts * 2 / 2 = t.musts := by omega
  simp only [e1, e2]
theorem lit_alone (s : Sch) (t : Typ) (v : Val) (h : rightT t = true) (hl : t.lists ≠ 4) (h6 : v.kind ≠ 6) (h8 : v.kind ≠ 8) (h0 : v.kind ≠ 0) :
    litR s (listT t) v = litR s t v ∧ litR s (mustT (listT t)) v = litR s t v := by
  have hr := right_listT h hl
  have hm := right_mustT hr
  have hl0 : (listT t).lists ≠ 0 := by
    have := (rightT_iff.1 h).2.1
    show t.lists + 1 ≠ 0; omega
  obtain ⟨b1, b2, b3⟩ := mustT_name (listT t)
  unfold litR
  refine ⟨?_, ?_⟩
  · rw [fitsV_down h8 h0 h6 hr hl0, item_listT]; rfl
  · rw [fitsV_down h8 h0 h6 hm (by rw [b2]; exact hl0), item_same b1 b2 b3, item_listT]; rfl
/-- An item of a list that is written may stand there as itself. -/
theorem fits_within (s : Sch) (v : Val) (t : Typ) : fitsV s v t true = (fitsV s v t false && (decide (t.lists = 0) || (v.kind == 6 || v.kind == 8 || v.kind == 0))) := by
  rw [fitsV_eq, fitsV_eq]
  by_cases h8 : v.kind = 8
  · simp [h8]
  · by_cases h0 : v.kind = 0
    · simp [h0]
    · by_cases hl : t.lists = 0
      · simp [h8, h0, hl]
      · by_cases h6 : v.kind = 6
        · simp [h6, hl]
        · simp [h8, h0, h6, hl]
theorem lit_lists (s : Sch) (t : Typ) (l : List Val) (n : Int) (str : Str) (h : rightT t = true) (hl : t.lists ≠ 4) :
    litR s (listT t) (.mk 6 0 [] l []) = l.all (fun x => litR s t x && (decide (t.lists = 0) || (x.kind == 6 || x.kind == 8 || x.kind == 0))) ∧ (t.lists = 0 → litR s t (.mk 6 0 [] l []) = false) := by
  have hl0 : (listT t).lists ≠ 0 := by
    have := (rightT_iff.1 h).2.1
    show t.lists + 1 ≠ 0; omega
  refine ⟨?_, fun h0 => ?_⟩
  · unfold litR
    rw [fitsV_list rfl (right_listT h hl) hl0, item_listT, allV]
    show ((if (6 : Int) = 6 then allL good l && true else _) && fitsL s l t) = _
    rw [if_pos rfl, Bool.and_true]
    induction l with
    | nil => rw [allL, fitsL]; rfl
    | cons x l ih =>
      rw [allL, fitsL, List.all_cons, ← ih, fits_within]
      cases allV good x <;> cases fitsV s x t false <;> cases allL good l <;> simp
  · unfold litR
    rw [fitsV_bare (v := .mk 6 0 [] l []) (show (6 : Int) ≠ 8 by decide) (show (6 : Int) ≠ 0 by decide) h h0]
    have : bareV s t.name (.mk 6 0 [] l []) ≠ true := fun e => absurd rfl (bareB_six e)
    simp at this
    rw [this, Bool.and_false]
end Go.Proofs.YtpidjkihngiaoaaGreatDoor
namespace Go.Proofs.YtpidjkihngiaoaaGreatDoor
open Go Go.Av
set_option maxRecDepth 100000
set_option linter.unusedVariables false
set_option linter.unusedSimpArgs false

/-- A value, and the error. -/
abbrev VE := Val × Int
def scalMk (name : Str) (v : Val) : VE :=
  if name = sInt ∧ v.kind = 2 ∧ (v.n < -2147483648 ∨ 2147483647 < v.n) then (val0, 8)
  else if name = sID ∧ v.kind = 2 then (textV (Lib.itoa v.n), 0)
  else if (name = sInt ∧ v.kind = 2) ∨ (name = sBoolean ∧ v.kind = 1) ∨ ((name = sString ∨ name = sID) ∧ v.kind = 4) then (v, 0) else (val0, 7)
def enumMk (wr : Bool) (d : Dfn) (k : Int) (str : Str) : VE := if k = (if wr = true then 5 else 4) ∧ str ∈ d.parts then (textV str, 0) else (val0, 7)
def envO (env : List Mem) (name : Str) : Option Val := (env.find? fun m => m.name == name).map Mem.v
def thereB (wr : Bool) (env : List Mem) (v : Val) : Bool := !(wr && v.kind == 8) || (envO env v.s).isSome
/-- A list of one, so many times. -/
def wrapN : Nat → Val → Val
  | 0, v => v
  | n + 1, v => .mk 6 0 [] [wrapN n v] []
def wrapR (n : Nat) (r : VE) : VE := if r.2 = 0 then (wrapN n r.1, 0) else r
/-- A member: its name, its value, what is made of it. -/
abbrev MF := Str × Val × (Typ → VE)
def firstF (fs : List MF) (name : Str) : Option MF := fs.find? fun f => f.1 == name
/-- The value of a parameter, of what was given; false: it is left out. -/
def memMk (s : Sch) (wr within : Bool) (env : List Mem) (dfl : Par → VE) (fs : List MF) (p : Par) : Val × Bool × Int :=
  match (firstF fs p.name).bind fun f => if thereB wr env f.2.1 = true then some f else none with
  | some f => ((f.2.2 p.t).1, true, (f.2.2 p.t).2)
  | none => if p.has = true ∧ (within = false ∨ leafB s p.t.name = true) then ((dfl p).1, true, (dfl p).2) else if isT p.t = true then (val0, false, 9) else (val0, false, 0)
def memsMk (s : Sch) (wr within : Bool) (env : List Mem) (dfl : Par → VE) (fs : List MF) : List Par → List Mem × Int
  | [] => ([], 0)
  | p :: ps =>
    let r := memMk s wr within env dfl fs p
    if r.2.2 ≠ 0 then ([], r.2.2) else
      let q := memsMk s wr within env dfl fs ps
      if q.2 ≠ 0 then ([], q.2) else (if r.2.1 = true then .mk p.name r.1 :: q.1 else q.1, 0)
/-- Is there a member that no parameter has? -/
def strange (wr : Bool) (env : List Mem) (fs : List MF) (ps : List Par) : Bool := fs.any fun f => (parO ps f.1).isNone && (match firstF fs f.1 with | some g => thereB wr env g.2.1 | none => false)
def inputMk (s : Sch) (wr : Bool) (env : List Mem) (dfl : Par → VE) (fs : List MF) (d : Dfn) : VE :=
  if strange wr env fs d.params = true then (val0, 6) else
    let q := memsMk s wr true env dfl fs d.params
    if q.2 ≠ 0 then (val0, q.2) else (.mk 7 0 [] [] q.1, 0)
def baseMk (s : Sch) (wr : Bool) (env : List Mem) (dfl : Par → VE) (name : Str) (v : Val) (fs : List MF) : VE :=
  match findO s name with
  | none => (val0, 7)
  | some d => if d.kind = 0 then scalMk name v else if d.kind = 4 then enumMk wr d v.kind v.s else if d.kind = 5 then (if v.kind = 7 then inputMk s wr env dfl fs d else (val0, 7)) else (val0, 7)
/-- May an item not stand in a list? -/
def oddItem (wr : Bool) (t : Typ) (k : Int) : Bool := decide (0 < t.lists) && (k != 6 && (k != 0 && !(wr && k == 8)))
mutual
/-- A value of a type, of one that may be. -/
def mkV (s : Sch) (wr : Bool) (env : List Mem) (dfl : Par → VE) : Val → Typ → VE
  | .mk k n str l m, t =>
    if wr = true ∧ k = 8 then (match envO env str with
      | some x => if x.kind = 0 ∧ isT t = true then (val0, 9) else (x, 0)
      | none => if isT t = true then (val0, 9) else (val0, 0))
    else if k = 0 then (if isT t = true then (val0, 9) else (.mk k n str l m, 0))
    else if rightT t = true ∧ t.lists ≠ 0 then
      (if k = 6 then (let q := mkL s wr env dfl l (itemT t); if q.2 ≠ 0 then (val0, q.2) else (.mk 6 0 [] q.1 [], 0))
      else wrapR t.lists.toNat (baseMk s wr env dfl t.name (.mk k n str l m) (mkM s wr env dfl m)))
    else baseMk s wr env dfl t.name (.mk k n str l m) (mkM s wr env dfl m)
def mkL (s : Sch) (wr : Bool) (env : List Mem) (dfl : Par → VE) : List Val → Typ → List Val × Int
  | [], _ => ([], 0)
  | v :: l, t =>
    if oddItem wr t v.kind = true then ([], 7) else
      let r := mkV s wr env dfl v t
      if r.2 ≠ 0 then ([], r.2) else
        let q := mkL s wr env dfl l t
        if q.2 ≠ 0 then ([], q.2) else (r.1 :: q.1, 0)
def mkM (s : Sch) (wr : Bool) (env : List Mem) (dfl : Par → VE) : List Mem → List MF
  | [] => []
  | .mk nm v :: m => (nm, v, fun t => if rightT t = true ∧ allV good v = true then mkV s wr env dfl v t else (val0, 1)) :: mkM s wr env dfl m
end
def junkD : Par → VE := fun _ => (val0, 7)
def askV (s : Sch) (wr : Bool) (env : List Mem) (dfl : Par → VE) (t : Typ) (v : Val) : VE := if rightT t = true ∧ allV good v = true then mkV s wr env dfl v t else (val0, 1)
/-- What is made of a default that stands where a leaf is asked for. -/
def dflLeaf (s : Sch) : Par → VE := fun p => askV s true [] junkD p.t p.d
/-- coerce.Input, coerce.Literal -/
def inV (s : Sch) (t : Typ) (v : Val) : VE := askV s false [] (dflLeaf s) t v
def litV (s : Sch) (t : Typ) (v : Val) (env : List Mem) : VE := askV s true env (dflLeaf s) t v
/-- What is made of any default. -/
def dflAll (s : Sch) : Par → VE := fun p => litV s p.t p.d []
/-- coerce.Args, coerce.Vars -/
def argsV (s : Sch) (ps : List Par) (args env : List Mem) : List Mem × Int := memsMk s true false env (dflAll s) (mkM s true env (dflLeaf s) args) ps
def varsC (s : Sch) (ps : List Par) (vars : List Mem) : List Mem × Int := memsMk s false false [] (dflAll s) (mkM s false [] (dflLeaf s) vars) ps
end Go.Proofs.YtpidjkihngiaoaaGreatDoor
namespace Go.Av
open Go
set_option linter.unusedSectionVars false
set_option linter.unusedVariables false
section
variable [Globals]
variable {P : Program} {all : Array Oper} {draw : Bool} {K : AX → Slots → St → Prop} {rest : List Oper} {acc : List Tag} {s : Slots} {σ : St} {d : Tmp} {ty : TypeId} {pos : String} {af : Array Edge}
theorem ofInt_nat {m : Nat} (h : m < 9223372036854775808) : (BitVec.ofInt 64 (m : Int)).toNat = m := by
  rw [BitVec.ofInt_natCast, BitVec.toNat_ofNat, Nat.mod_eq_of_lt (by omega)]
theorem wrap_nat {m : Nat} (h : m < 9223372036854775808) : IntKind.i64.wrap (m : Int) = (m : Int) := IntWalk.i64_in _ (by omega)
theorem A.band {x y : Operand} {T U : TypeId} {a b : Int} {m n r : Nat} (hx : ev? s x = some (.int .i64 a)) (hy : ev? s y = some (.int .i64 b)) (ha : a = (m : Int)) (hb : b = (n : Int)) (hm : m < 9223372036854775808) (hn : n < 9223372036854775808) (hr : m &&& n = r)
    (k' : AOps P all draw K rest (.pure :: acc) ((d, .int .i64 (r : Int)) :: s) σ) : AOps P all draw K (⟨some d, .binOp .and T x y U, ty, pos, af, none⟩ :: rest) acc s σ :=
  two_ops hx hy (fun g w u v hu hv => by
    cases (show u = _ from hu); cases (show v = _ from hv)
    subst ha; subst hb
    have hle : m &&& n ≤ m := Nat.and_le_left
    have e : IntKind.i64.wrap (((BitVec.ofInt IntKind.i64.bits (m : Int)) &&& (BitVec.ofInt IntKind.i64.bits (n : Int))).toNat : Int) = (r : Int) := by
      rw [BitVec.toNat_and, show (BitVec.ofInt IntKind.i64.bits (m : Int)).toNat = m from ofInt_nat hm, show (BitVec.ofInt IntKind.i64.bits (n : Int)).toNat = n from ofInt_nat hn, hr, wrap_nat (by omega)]
    exact ⟨.int .i64 (r : Int), by simp only [eqGuard, Go.binOp, Op.intBits]; rw [e]; rfl, rfl⟩) k'
theorem or_lt {m n : Nat} (hm : m < 9223372036854775808) (hn : n < 9223372036854775808) : m ||| n < 9223372036854775808 := Nat.or_lt_two_pow (n := 63) hm hn
theorem A.bor {x y : Operand} {T U : TypeId} {a b : Int} {m n r : Nat} (hx : ev? s x = some (.int .i64 a)) (hy : ev? s y = some (.int .i64 b)) (ha : a = (m : Int)) (hb : b = (n : Int)) (hm : m < 9223372036854775808) (hn : n < 9223372036854775808) (hr : m ||| n = r)
    (k' : AOps P all draw K rest (.pure :: acc) ((d, .int .i64 (r : Int)) :: s) σ) : AOps P all draw K (⟨some d, .binOp .or T x y U, ty, pos, af, none⟩ :: rest) acc s σ :=
  two_ops hx hy (fun g w u v hu hv => by
    cases (show u = _ from hu); cases (show v = _ from hv)
    subst ha; subst hb
    have hle := or_lt hm hn
    have e : IntKind.i64.wrap (((BitVec.ofInt IntKind.i64.bits (m : Int)) ||| (BitVec.ofInt IntKind.i64.bits (n : Int))).toNat : Int) = (r : Int) := by
      rw [BitVec.toNat_or, show (BitVec.ofInt IntKind.i64.bits (m : Int)).toNat = m from ofInt_nat hm, show (BitVec.ofInt IntKind.i64.bits (n : Int)).toNat = n from ofInt_nat hn, hr, wrap_nat (by omega)]
    exact ⟨.int .i64 (r : Int), by simp only [eqGuard, Go.binOp, Op.intBits]; rw [e]; rfl, rfl⟩) k'
theorem A.bclr {x y : Operand} {T U : TypeId} {a b r : Int} (hx : ev? s x = some (.int .i64 a)) (hy : ev? s y = some (.int .i64 b)) (hr : IntKind.i64.wrap (((BitVec.ofInt IntKind.i64.bits a) &&& ~~~(BitVec.ofInt IntKind.i64.bits b)).toNat : Int) = r)
    (k' : AOps P all draw K rest (.pure :: acc) ((d, .int .i64 r) :: s) σ) : AOps P all draw K (⟨some d, .binOp .andNot T x y U, ty, pos, af, none⟩ :: rest) acc s σ :=
  two_ops hx hy (fun g w u v hu hv => by
    cases (show u = _ from hu); cases (show v = _ from hv)
    exact ⟨.int .i64 r, by simp only [eqGuard, Go.binOp, Op.intBits]; rw [hr]; rfl, rfl⟩) k'
theorem and31 (m : Nat) : m &&& 31 = m % 32 := Nat.and_two_pow_sub_one_eq_mod m 5
theorem and15 (m : Nat) : m &&& 15 = m % 16 := Nat.and_two_pow_sub_one_eq_mod m 4
theorem and7 (m : Nat) : m &&& 7 = m % 8 := Nat.and_two_pow_sub_one_eq_mod m 3
theorem and63 (m : Nat) : m &&& 63 = m % 64 := Nat.and_two_pow_sub_one_eq_mod m 6
theorem or64 (m n : Nat) (h : n < 64) : m * 64 ||| n = m * 64 + n := by
  have := Nat.two_pow_add_eq_or_of_lt (i := 6) (b := n) h m
  rw [Nat.mul_comm] at this
  exact this.symm
def tailOf : Nat → Code → Code
  | 0, c => c
  | n + 1, .seq _ y => tailOf n y
  | _ + 1, c => c
/-- A piece of code, walked by itself. -/
theorem HCode.cut {P : Program} {N : Nat} {D : List Deferred} {x y : Code} {K : AX → Slots → St → Prop} {s : Slots} {σ : St} (s1 : Slots) (σ1 : St) (h : HCode P N D x (fun e s' σ' => e = .normal ∧ Sub s1 s' ∧ σ' = σ1) s σ) (k : HCode P N D y K s1 σ1) : HCode P N D (.seq x y) K s σ :=
  HCode.seq (h.mono fun e s' σ' ⟨he, hs, hσ⟩ => by subst he; subst hσ; exact k.weaken hs)
def bodyOf (f : Func) : Code := f.body.getD .skip
end
end Go.Av
namespace Go.Proofs.YtpidjkihngiaoaaGreatDoor
open Go Go.Av
set_option maxRecDepth 100000
set_option maxHeartbeats 8000000
set_option linter.unusedVariables false
set_option linter.unusedSimpArgs false
attribute [local irreducible] HCode AOps PFn AFn Av.Step TStep

theorem shr_musts {m l : Int} (h0 : 0 ≤ l) (h4 : l ≤ 4) : m.fdiv (2 ^ min (l + 1).toNat IntKind.i64.bits) = m / 2 ^ (l.toNat + 1) := by
  have e : min (l + 1).toNat IntKind.i64.bits = l.toNat + 1 := by
    show min (l + 1).toNat 64 = _
    omega
  rw [e, Int.fdiv_eq_ediv_of_nonneg _ (Int.le_of_lt (Int.pow_pos (by decide)))]
theorem div_zero_iff {m c : Int} (h : 0 ≤ m) (hc : 0 < c) : (m / c == 0) = decide (m < c) := by
  rw [Bool.eq_iff_iff, beq_iff_eq, decide_eq_true_eq]
  constructor
  · intro e
    have h1 := Int.emod_lt_of_pos m hc
    have h2 := Int.mul_ediv_add_emod m c
    rw [e] at h2
    omega
  · exact Int.ediv_eq_zero_of_lt h
theorem wRight (t : Typ) (hs : t.name.length ≤ 9223372036854775806) : PFn Tryz.prog 47 [t.enc] (.bool (rightT t)) := by
  have hn := lName t.name hs
  refine AFn.plain rfl rfl (AFn.enter [2] Tryz.func47 rfl rfl rfl rfl rfl (by decide) ?_)
  by_cases h1 : 0 ≤ t.lists
  · have e1 : decide (0 ≤ t.lists) = true := decide_eq_true h1
    by_cases h2 : t.lists ≤ 4
    · have e2 : decide (t.lists ≤ 4) = true := decide_eq_true h2
      by_cases h3 : 0 ≤ t.musts
      · have e3 : decide (0 ≤ t.musts) = true := decide_eq_true h3
        repeat' first
          | refine .br ?_
          | refine .seq ?_ | refine .rg ?_ | refine .rd ?_ | refine .block ?_ | refine .scope ?_ | refine .skip ?_ | refine .label ?_ | refine .exit ?_ | refine .ret ?_
          | refine .ct ?_ | refine .cf ?_ | refine .cy ?_ | refine .cn ?_ | (refine .cond rfl ?_ ?_ <;> intro hc)
          | refine A.nil_seq ?_ | refine .nl ?_ | refine .dd ?_ | refine .ys ?_ | refine .no ?_ | (refine A.guard rfl ?_ ?_ <;> intro hc)
          | refine .lb ?_ | refine .ln ?_ | refine .ls ?_ | refine .pv ?_ | refine .ix ?_ | refine .pt ?_ | refine .pf ?_ | refine .bx ?_ | refine .al ?_ | refine .st ?_ | refine .ad ?_ | refine .sb ?_ | refine .mf ?_ | refine .cl ?_ | refine .cw ?_ | refine .ck ?_
          | refine A.shr rfl rfl (by omega) (shr_musts h1 h2) ?_ | fail
        all_goals
          refine Fin.ret1 rfl (Weak.eq (congrArg AV.bool ?_))
          unfold rightT
          rw [e1, e2, e3]
          try rw [div_zero_iff h3 (Int.pow_pos (by decide))]
          simp_all
      · have e3 : decide (0 ≤ t.musts) = false := decide_eq_false h3
        repeat' first
          | refine .br ?_
          | refine .seq ?_ | refine .rg ?_ | refine .rd ?_ | refine .block ?_ | refine .scope ?_ | refine .skip ?_ | refine .label ?_ | refine .exit ?_ | refine .ret ?_
          | refine .ct ?_ | refine .cf ?_ | refine .cy ?_ | refine .cn ?_ | (refine .cond rfl ?_ ?_ <;> intro hc)
          | refine A.nil_seq ?_ | refine .nl ?_ | refine .dd ?_ | refine .ys ?_ | refine .no ?_ | (refine A.guard rfl ?_ ?_ <;> intro hc)
          | refine .lb ?_ | refine .ln ?_ | refine .ls ?_ | refine .pv ?_ | refine .ix ?_ | refine .pt ?_ | refine .pf ?_ | refine .bx ?_ | refine .al ?_ | refine .st ?_ | refine .ad ?_ | refine .sb ?_ | refine .mf ?_ | refine .cl ?_ | refine .cw ?_ | refine .ck ?_ | fail
        all_goals
          refine Fin.ret1 rfl (Weak.eq (congrArg AV.bool ?_))
          unfold rightT
          rw [e3]; simp_all
    · have e2 : decide (t.lists ≤ 4) = false := decide_eq_false h2
      repeat' first
        | refine .br ?_
        | refine .seq ?_ | refine .rg ?_ | refine .rd ?_ | refine .block ?_ | refine .scope ?_ | refine .skip ?_ | refine .label ?_ | refine .exit ?_ | refine .ret ?_
        | refine .ct ?_ | refine .cf ?_ | refine .cy ?_ | refine .cn ?_ | (refine .cond rfl ?_ ?_ <;> intro hc)
        | refine A.nil_seq ?_ | refine .nl ?_ | refine .dd ?_ | refine .ys ?_ | refine .no ?_ | (refine A.guard rfl ?_ ?_ <;> intro hc)
        | refine .lb ?_ | refine .ln ?_ | refine .ls ?_ | refine .pv ?_ | refine .ix ?_ | refine .pt ?_ | refine .pf ?_ | refine .bx ?_ | refine .al ?_ | refine .st ?_ | refine .ad ?_ | refine .sb ?_ | refine .mf ?_ | refine .cl ?_ | refine .cw ?_ | refine .ck ?_ | fail
      all_goals
        refine Fin.ret1 rfl (Weak.eq (congrArg AV.bool ?_))
        unfold rightT
        rw [e2]; simp_all
  · have e1 : decide (0 ≤ t.lists) = false := decide_eq_false h1
    repeat' first
      | refine .br ?_
      | refine .seq ?_ | refine .rg ?_ | refine .rd ?_ | refine .block ?_ | refine .scope ?_ | refine .skip ?_ | refine .label ?_ | refine .exit ?_ | refine .ret ?_
      | refine .ct ?_ | refine .cf ?_ | refine .cy ?_ | refine .cn ?_ | (refine .cond rfl ?_ ?_ <;> intro hc)
      | refine A.nil_seq ?_ | refine .nl ?_ | refine .dd ?_ | refine .ys ?_ | refine .no ?_ | (refine A.guard rfl ?_ ?_ <;> intro hc)
      | refine .lb ?_ | refine .ln ?_ | refine .ls ?_ | refine .pv ?_ | refine .ix ?_ | refine .pt ?_ | refine .pf ?_ | refine .bx ?_ | refine .al ?_ | refine .st ?_ | refine .ad ?_ | refine .sb ?_ | refine .mf ?_ | refine .cl ?_ | refine .cw ?_ | refine .ck ?_ | fail
    all_goals
      refine Fin.ret1 rfl (Weak.eq (congrArg AV.bool ?_))
      unfold rightT
      rw [e1]; simp_all
theorem and1 (m : Nat) : m &&& 1 = m % 2 := Nat.and_two_pow_sub_one_eq_mod m 1
theorem bit0 (t : Typ) (h0 : 0 ≤ t.musts) (h1 : t.musts < 9223372036854775808) : PFn Tryz.prog 208 [t.enc, .int .i64 0] (.bool (decide (t.musts % 2 = 1))) := by
  refine AFn.plain rfl rfl (AFn.enter [4] Tryz.func208 rfl rfl rfl rfl rfl (by decide) ?_)
  have e : t.musts.fdiv (2 ^ min (0 : Int).toNat IntKind.i64.bits) = t.musts := by
    rw [show (2 : Int) ^ min (0 : Int).toNat IntKind.i64.bits = 1 from rfl, Int.fdiv_eq_ediv_of_nonneg _ (by decide), Int.ediv_one]
  repeat' first
    | refine .br ?_
    | refine .seq ?_ | refine .rg ?_ | refine .rd ?_ | refine .block ?_ | refine .scope ?_ | refine .skip ?_ | refine .label ?_ | refine .exit ?_ | refine .ret ?_
    | refine .ct ?_ | refine .cf ?_ | refine .cy ?_ | refine .cn ?_ | (refine .cond rfl ?_ ?_ <;> intro hc)
    | refine A.nil_seq ?_ | refine .nl ?_ | refine .dd ?_ | refine .ys ?_ | refine .no ?_ | (refine A.guard rfl ?_ ?_ <;> intro hc)
    | refine .lb ?_ | refine .ln ?_ | refine .ls ?_ | refine .pv ?_ | refine .ix ?_ | refine .pt ?_ | refine .pf ?_ | refine .bx ?_ | refine .al ?_ | refine .st ?_ | refine .ad ?_ | refine .sb ?_ | refine .mf ?_ | refine .cl ?_ | refine .cw ?_ | refine .ck ?_
    | refine A.shr rfl rfl (by decide) e ?_ | refine A.band (m := t.musts.toNat) (n := 1) rfl rfl (by omega) rfl (by omega) (by decide) (and1 _) ?_ | fail
  refine Fin.ret1 rfl (Weak.eq (congrArg AV.bool ?_))
  rw [Bool.eq_iff_iff, beq_iff_eq, decide_eq_true_eq]
  omega
theorem pow_le32 {l : Int} (h : l ≤ 4) : (2 : Int) ^ (l.toNat + 1) ≤ 32 := by
  have h' : l.toNat ≤ 4 := by omega
  generalize l.toNat = n at h'
  match n, h' with
  | 0, _ => decide
  | 1, _ => decide
  | 2, _ => decide
  | 3, _ => decide
  | 4, _ => decide
theorem musts_lt {t : Typ} (h : rightT t = true) : t.musts < 32 := by
  obtain ⟨_, _, h3, _, h5⟩ := rightT_iff.1 h
  have := pow_le32 h3
  omega
theorem wIs (t : Typ) (hs : t.name.length ≤ 9223372036854775806) : PFn Tryz.prog 131 [t.enc] (.bool (isT t)) := by
  have hr := wRight t hs
  refine AFn.plain rfl rfl (AFn.enter [2] Tryz.func131 rfl rfl rfl rfl rfl (by decide) ?_)
  cases c : rightT t with
  | true =>
    rw [c] at hr
    have hb := bit0 t (rightT_iff.1 c).2.2.2.1 (by have := musts_lt c; omega)
    repeat' first
      | refine .br ?_
      | refine .seq ?_ | refine .rg ?_ | refine .rd ?_ | refine .block ?_ | refine .scope ?_ | refine .skip ?_ | refine .label ?_ | refine .exit ?_ | refine .ret ?_
      | refine .ct ?_ | refine .cf ?_ | refine .cy ?_ | refine .cn ?_ | (refine .cond rfl ?_ ?_ <;> intro hc)
      | refine A.nil_seq ?_ | refine .nl ?_ | refine .dd ?_ | refine .ys ?_ | refine .no ?_ | (refine A.guard rfl ?_ ?_ <;> intro hc)
      | refine .lb ?_ | refine .ln ?_ | refine .ls ?_ | refine .pv ?_ | refine .ix ?_ | refine .pt ?_ | refine .pf ?_ | refine .bx ?_ | refine .al ?_ | refine .st ?_ | refine .ad ?_ | refine .sb ?_ | refine .mf ?_ | refine .cl ?_ | refine .cw ?_ | refine .ck ?_ | fail
    refine Fin.ret1 rfl (Weak.eq (congrArg AV.bool ?_))
    unfold isT; rw [c]; rfl
  | false =>
    rw [c] at hr
    repeat' first
      | refine .br ?_
      | refine .seq ?_ | refine .rg ?_ | refine .rd ?_ | refine .block ?_ | refine .scope ?_ | refine .skip ?_ | refine .label ?_ | refine .exit ?_ | refine .ret ?_
      | refine .ct ?_ | refine .cf ?_ | refine .cy ?_ | refine .cn ?_ | (refine .cond rfl ?_ ?_ <;> intro hc)
      | refine A.nil_seq ?_ | refine .nl ?_ | refine .dd ?_ | refine .ys ?_ | refine .no ?_ | (refine A.guard rfl ?_ ?_ <;> intro hc)
      | refine .lb ?_ | refine .ln ?_ | refine .ls ?_ | refine .pv ?_ | refine .ix ?_ | refine .pt ?_ | refine .pf ?_ | refine .bx ?_ | refine .al ?_ | refine .st ?_ | refine .ad ?_ | refine .sb ?_ | refine .mf ?_ | refine .cl ?_ | refine .cw ?_ | refine .ck ?_ | fail
    refine Fin.ret1 rfl (Weak.eq (congrArg AV.bool ?_))
    unfold isT; rw [c]; rfl
theorem shr_one {m : Int} : m.fdiv (2 ^ min (1 : Int).toNat IntKind.i64.bits) = m / 2 := by
  rw [show (2 : Int) ^ min (1 : Int).toNat IntKind.i64.bits = 2 from rfl, Int.fdiv_eq_ediv_of_nonneg _ (by decide)]
theorem wItem (t : Typ) (hs : t.name.length ≤ 9223372036854775806) : PFn Tryz.prog 132 [t.enc] (.tup [(itemR t).1.enc, .bool (itemR t).2]) := by
  have hr := wRight t hs
  refine AFn.plain rfl rfl (AFn.enterR [.cell 2 26, .tmp 3] Tryz.func132 rfl rfl rfl rfl rfl ?_)
  unfold itemR
  cases c : rightT t with
  | true =>
    rw [c] at hr
    obtain ⟨_, q1, q2, q3, q4⟩ := rightT_iff.1 c
    by_cases h0 : t.lists = 0
    · have e0 : (t.lists == 0) = true := by simp [h0]
      rw [if_neg (fun h => h.2 h0)]
      repeat' first
        | refine .br ?_
        | refine .seq ?_ | refine .rg ?_ | refine .rd ?_ | refine .block ?_ | refine .scope ?_ | refine .skip ?_ | refine .label ?_ | refine .exit ?_ | refine .ret ?_
        | refine .ct ?_ | refine .cf ?_ | refine .cy ?_ | refine .cn ?_ | (refine .cond rfl ?_ ?_ <;> intro hc)
        | refine A.nil_seq ?_ | refine .nl ?_ | refine .dd ?_ | refine .ys ?_ | refine .no ?_ | (refine A.guard rfl ?_ ?_ <;> intro hc)
        | refine .lb ?_ | refine .ln ?_ | refine .ls ?_ | refine .pv ?_ | refine .ix ?_ | refine .pt ?_ | refine .pf ?_ | refine .bx ?_ | refine .al ?_ | refine .st ?_ | refine .ad ?_ | refine .sb ?_ | refine .mf ?_ | refine .cl ?_ | refine .cw ?_ | refine .ck ?_ | fail
      exact FinR.ret1 rfl (Weak.refl _)
    · have e0 : (t.lists == 0) = false := by simp [h0]
      rw [if_pos ⟨rfl, h0⟩]
      repeat' first
        | refine .br ?_
        | refine .seq ?_ | refine .rg ?_ | refine .rd ?_ | refine .block ?_ | refine .scope ?_ | refine .skip ?_ | refine .label ?_ | refine .exit ?_ | refine .ret ?_
        | refine .ct ?_ | refine .cf ?_ | refine .cy ?_ | refine .cn ?_ | (refine .cond rfl ?_ ?_ <;> intro hc)
        | refine A.nil_seq ?_ | refine .nl ?_ | refine .dd ?_ | refine .ys ?_ | refine .no ?_ | (refine A.guard rfl ?_ ?_ <;> intro hc)
        | refine .lb ?_ | refine .ln ?_ | refine .ls ?_ | refine .pv ?_ | refine .ix ?_ | refine .pt ?_ | refine .pf ?_ | refine .bx ?_ | refine .al ?_ | refine .st ?_ | refine .ad ?_ | refine .sb ?_ | refine .mf ?_ | refine .cl ?_ | refine .cw ?_ | refine .ck ?_
        | refine A.shr rfl rfl (by decide) shr_one ?_ | fail
      exact FinR.ret1 rfl (Weak.refl _)
  | false =>
    rw [c] at hr
    rw [if_neg (fun h => by cases h.1)]
    repeat' first
      | refine .br ?_
      | refine .seq ?_ | refine .rg ?_ | refine .rd ?_ | refine .block ?_ | refine .scope ?_ | refine .skip ?_ | refine .label ?_ | refine .exit ?_ | refine .ret ?_
      | refine .ct ?_ | refine .cf ?_ | refine .cy ?_ | refine .cn ?_ | (refine .cond rfl ?_ ?_ <;> intro hc)
      | refine A.nil_seq ?_ | refine .nl ?_ | refine .dd ?_ | refine .ys ?_ | refine .no ?_ | (refine A.guard rfl ?_ ?_ <;> intro hc)
      | refine .lb ?_ | refine .ln ?_ | refine .ls ?_ | refine .pv ?_ | refine .ix ?_ | refine .pt ?_ | refine .pf ?_ | refine .bx ?_ | refine .al ?_ | refine .st ?_ | refine .ad ?_ | refine .sb ?_ | refine .mf ?_ | refine .cl ?_ | refine .cw ?_ | refine .ck ?_ | fail
    exact FinR.ret1 rfl (Weak.refl _)
theorem shl_one {m : Int} (h0 : 0 ≤ m) (h1 : m < 1073741824) : IntKind.i64.wrap (m * 2 ^ min (1 : Int).toNat IntKind.i64.bits) = m * 2 := by
  rw [show (2 : Int) ^ min (1 : Int).toNat IntKind.i64.bits = 2 from rfl, IntWalk.i64_in _ (by omega)]
def listR (t : Typ) : Typ × Bool := if rightT t = true ∧ t.lists ≠ 4 then (listT t, true) else (zeroT, false)
theorem or1 (m : Nat) (h : m < 32) : m ||| 1 = if m % 2 = 1 then m else m + 1 := by
  have : ∀ m : Fin 32, m.val ||| 1 = if m.val % 2 = 1 then m.val else m.val + 1 := by decide +kernel
  exact this ⟨m, h⟩
theorem clr1 {m : Int} (h0 : 0 ≤ m) (h : m < 32) : IntKind.i64.wrap (((BitVec.ofInt IntKind.i64.bits m) &&& ~~~(BitVec.ofInt IntKind.i64.bits 1)).toNat : Int) = if m % 2 = 1 then m - 1 else m := by
  have : ∀ m : Fin 32, IntKind.i64.wrap (((BitVec.ofInt IntKind.i64.bits (m.val : Int)) &&& ~~~(BitVec.ofInt IntKind.i64.bits 1)).toNat : Int) = if (m.val : Int) % 2 = 1 then (m.val : Int) - 1 else (m.val : Int) := by decide +kernel
  have e := this ⟨m.toNat, by omega⟩
  simp only [Int.toNat_of_nonneg h0] at e
  exact e
end Go.Proofs.YtpidjkihngiaoaaGreatDoor
namespace Go.Proofs.YtpidjkihngiaoaaGreatDoor
open Go Go.Av
set_option maxRecDepth 100000
set_option maxHeartbeats 8000000
set_option linter.unusedVariables false
set_option linter.unusedSimpArgs false
def idxFrom {α : Type} (p : α → Bool) : List α → Nat → Int
  | [], _ => -1
  | x :: l, k => if p x then (k : Int) else idxFrom p l (k + 1)
theorem idxFrom_drop {α : Type} {p : α → Bool} {l : List α} {k : Nat} (h : k < l.length) : idxFrom p (l.drop k) k = if p l[k] then (k : Int) else idxFrom p (l.drop (k + 1)) (k + 1) := by
  rw [List.drop_eq_getElem_cons h, idxFrom]

theorem idxFrom_spec {α : Type} (p : α → Bool) : ∀ (l : List α) (k : Nat), (idxFrom p l k = -1 ∧ l.find? p = none) ∨ ∃ (j : Nat) (h : j < l.length), idxFrom p l k = ((k + j : Nat) : Int) ∧ l.find? p = some l[j]
  | [], k => .inl ⟨rfl, rfl⟩
  | x :: l, k => by
    by_cases e : p x = true
    · exact .inr ⟨0, by simp, by simp [idxFrom, e], by simp [e]⟩
    · rcases idxFrom_spec p l (k + 1) with ⟨h1, h2⟩ | ⟨j, h, h1, h2⟩
      · exact .inl ⟨by simp [idxFrom, e, h1], by simp [List.find?, e, h2]⟩
      · exact .inr ⟨j + 1, by simpa using h, by simp [idxFrom, e, h1]; omega, by simp [List.find?, e, h2]⟩
theorem idx_any {α : Type} (p : α → Bool) (l : List α) : decide (0 ≤ idxFrom p l 0) = l.any p := by
  rcases idxFrom_spec p l 0 with ⟨h1, h2⟩ | ⟨j, hj, h1, h2⟩
  · rw [h1]
    rw [List.find?_eq_none] at h2
    have : l.any p = false := by rw [Bool.eq_false_iff]; intro h; obtain ⟨x, hx, hp⟩ := List.any_eq_true.1 h; exact h2 x hx hp
    rw [this]; decide
  · rw [h1]
    have hp := List.find?_some h2
    have : l.any p = true := List.any_eq_true.2 ⟨_, List.getElem_mem hj, hp⟩
    rw [this]
    exact decide_eq_true (by omega)
theorem idx_mem (l : List Str) (x : Str) : decide (0 ≤ idxFrom (fun y => x == y) l 0) = decide (x ∈ l) := by
  rw [idx_any, Bool.eq_iff_iff, List.any_eq_true, decide_eq_true_eq]
  constructor
  · rintro ⟨y, hy, e⟩; rw [beq_iff_eq] at e; subst e; exact hy
  · intro h; exact ⟨x, h, by simp⟩
theorem idx_memI (l : List Int) (x : Int) : decide (0 ≤ idxFrom (fun y => x == y) l 0) = decide (x ∈ l) := by
  rw [idx_any, Bool.eq_iff_iff, List.any_eq_true, decide_eq_true_eq]
  constructor
  · rintro ⟨y, hy, e⟩; rw [beq_iff_eq] at e; subst e; exact hy
  · intro h; exact ⟨x, h, by simp⟩
end Go.Proofs.YtpidjkihngiaoaaGreatDoor
