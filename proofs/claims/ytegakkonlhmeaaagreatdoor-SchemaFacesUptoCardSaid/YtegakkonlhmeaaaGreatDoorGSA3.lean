/-
  What the packages wrap, defs, literal compute, in plain words; plain laws of it.
  A new variable as a slice of one element; such a variable that is never written any more.
  The first place where something holds, in plain words.
-/
import Derived.Test.YtegakkonlhmeaaaGreatDoorGSA1
import Derived.Test.YtegakkonlhmeaaaGreatDoorGSA2
import Derived.Test.YtegakkonlhmeaaaGreatDoorAvVec5
namespace Go.Proofs.YtegakkonlhmeaaaGreatDoor
open Go Go.Av
set_option maxRecDepth 100000
set_option linter.unusedVariables false
set_option linter.unusedSimpArgs false

/-- May a type be? -/
def rightT (t : Typ) : Bool := nameB t.name && (decide (0 ≤ t.lists) && (decide (t.lists ≤ 4) && (decide (0 ≤ t.musts) && decide (t.musts < 2 ^ (t.lists.toNat + 1)))))
/-- Must it be there? -/
def isT (t : Typ) : Bool := rightT t && decide (t.musts % 2 = 1)
def itemT (t : Typ) : Typ := ⟨t.name, t.lists - 1, t.musts / 2⟩
def zeroT : Typ := ⟨[], 0, 0⟩
def itemR (t : Typ) : Typ × Bool := if rightT t = true ∧ t.lists ≠ 0 then (itemT t, true) else (zeroT, false)
def listT (t : Typ) : Typ := ⟨t.name, t.lists + 1, t.musts * 2⟩
def mustT (t : Typ) : Typ := if rightT t = true then ⟨t.name, t.lists, if t.musts % 2 = 1 then t.musts else t.musts + 1⟩ else t
def bareT (t : Typ) : Typ := if rightT t = true then ⟨t.name, t.lists, if t.musts % 2 = 1 then t.musts - 1 else t.musts⟩ else t
theorem rightT_iff {t : Typ} : rightT t = true ↔ nameB t.name = true ∧ 0 ≤ t.lists ∧ t.lists ≤ 4 ∧ 0 ≤ t.musts ∧ t.musts < 2 ^ (t.lists.toNat + 1) := by
  simp [rightT, Bool.and_eq_true, and_assoc]
theorem rightT_item {t : Typ} (h : rightT t = true) (hl : t.lists ≠ 0) : rightT (itemT t) = true := by
  rw [rightT_iff] at *
  obtain ⟨h1, h2, h3, h4, h5⟩ := h
  have e : t.lists.toNat = (t.lists - 1).toNat + 1 := by omega
  refine ⟨h1, ?_, ?_, ?_, ?_⟩
  · show 0 ≤ t.lists - 1; omega
  · show t.lists - 1 ≤ 4; omega
  · show 0 ≤ t.musts / 2; omega
  · show t.musts / 2 < 2 ^ ((t.lists - 1).toNat + 1)
    rw [e, Int.pow_succ] at h5
    omega

/-- The four names that are always there. -/
def sInt : Str := [73, 110, 116]
def sString : Str := [83, 116, 114, 105, 110, 103]
def sBoolean : Str := [66, 111, 111, 108, 101, 97, 110]
def sID : Str := [73, 68]
def scalarB (n : Str) : Bool := n == sInt || n == sString || n == sBoolean || n == sID
def zeroD : Dfn := ⟨0, [], [], [], [], []⟩
def findO (s : Sch) (name : Str) : Option Dfn := if scalarB name = true then some ⟨0, name, [], [], [], []⟩ else s.defs.find? (fun d => d.name == name)
def findR (s : Sch) (name : Str) : Dfn × Bool := match findO s name with
  | some d => (d, true)
  | none => (zeroD, false)
/-- Is there a definition, of one of these kinds? -/
def kindB (s : Sch) (name : Str) (ks : List Int) : Bool := (findR s name).2 && decide ((findR s name).1.kind ∈ ks)
def leafB (s : Sch) (name : Str) : Bool := kindB s name [0, 4]
def compB (s : Sch) (name : Str) : Bool := kindB s name [1, 2, 3]
def entryB (s : Sch) (name : Str) : Bool := kindB s name [0, 4, 5]
abbrev zeroVal : Val := val0
def zeroP : Par := ⟨[], zeroT, false, zeroVal⟩
def parO (l : List Par) (name : Str) : Option Par := l.find? (fun p => p.name == name)
def parR (l : List Par) (name : Str) : Par × Bool := match parO l name with
  | some p => (p, true)
  | none => (zeroP, false)
def reqB (p : Par) : Bool := isT p.t && !p.has
/-- Are all there that must be? -/
def needsB (m : List Mem) : List Par → Bool
  | [] => true
  | p :: l => ((m.any fun x => x.name == p.name) || !reqB p) && needsB m l
def scalFit (name : Str) (k n : Int) : Bool :=
  if name = sInt then k == 2 && (decide (-2147483648 ≤ n) && decide (n ≤ 2147483647)) else if name = sString then k == 4 else if name = sBoolean then k == 1 else if name = sID then k == 4 || k == 2 else false
def bareB (s : Sch) (name : Str) (k n : Int) (str : Str) (inp : List Par → Bool) : Bool :=
  match findO s name with
  | none => false
  | some d => if d.kind = 4 then k == 5 && decide (str ∈ d.parts) else if d.kind = 5 then k == 7 && inp d.params else if d.kind = 0 then scalFit name k n else false
mutual
/-- May a good value stand where a type is asked for? w: it is an item of a list that is written. -/
def fitsV (s : Sch) : Val → Typ → Bool → Bool
  | .mk k n str l m, t, w =>
    if k = 8 then rightT t else if k = 0 then rightT t && !isT t else rightT t &&
      (if t.lists = 0 then bareB s t.name k n str (fun ps => fitsM s ps m [] && needsB m ps) else if k = 6 then fitsL s l (itemT t) else !w && bareB s t.name k n str (fun ps => fitsM s ps m [] && needsB m ps))
def fitsL (s : Sch) : List Val → Typ → Bool
  | [], _ => true
  | v :: l, t => fitsV s v t true && fitsL s l t
def fitsM (s : Sch) (ps : List Par) : List Mem → List Str → Bool
  | [], _ => true
  | .mk nm v :: m, seen => (match parO ps nm with | none => false | some p => fitsV s v p.t false) && (!decide (nm ∈ seen) && fitsM s ps m (seen ++ [nm]))
end
def inputB (s : Sch) (ps : List Par) (v : Val) : Bool := v.kind == 7 && (fitsM s ps v.m [] && needsB v.m ps)
def bareV (s : Sch) (name : Str) (v : Val) : Bool := bareB s name v.kind v.n v.s (fun ps => fitsM s ps v.m [] && needsB v.m ps)
theorem fitsV_eq (s : Sch) (v : Val) (t : Typ) (w : Bool) : fitsV s v t w = if v.kind = 8 then rightT t else if v.kind = 0 then rightT t && !isT t else rightT t &&
      (if t.lists = 0 then bareV s t.name v else if v.kind = 6 then fitsL s v.l (itemT t) else !w && bareV s t.name v) := by
  cases v; rw [fitsV]; rfl
theorem fitsL_drop {s : Sch} {t : Typ} {l : List Val} {k : Nat} (h : k < l.length) : fitsL s (l.drop k) t = (fitsV s l[k] t true && fitsL s (l.drop (k + 1)) t) := by
  rw [List.drop_eq_getElem_cons h, fitsL]
theorem fitsM_drop {s : Sch} {ps : List Par} {l : List Mem} {k : Nat} (h : k < l.length) : fitsM s ps (l.drop k) ((l.take k).map Mem.name) =
    ((match parO ps l[k].name with | none => false | some p => fitsV s l[k].v p.t false) && (!decide (l[k].name ∈ (l.take k).map Mem.name) && fitsM s ps (l.drop (k + 1)) ((l.take (k + 1)).map Mem.name))) := by
  rw [List.drop_eq_getElem_cons h, List.take_succ_eq_append_getElem h, List.map_append]
  cases hx : l[k]; rw [fitsM]; rfl
/-- What is no list may stand for a list by itself, but not within one. -/
theorem fitsV_down {s : Sch} {v : Val} {t : Typ} {w : Bool} (h8 : v.kind ≠ 8) (h0 : v.kind ≠ 0) (h6 : v.kind ≠ 6) (hr : rightT t = true) (hl : t.lists ≠ 0) : fitsV s v t w = (!w && fitsV s v (itemT t) false) := by
  rw [fitsV_eq, fitsV_eq s v (itemT t), if_neg h8, if_neg h0, if_neg hl, if_neg h6, if_neg h8, if_neg h0, if_neg h6, hr, rightT_item hr hl]
  simp only [Bool.true_and, Bool.not_false, ite_self]
  rfl
theorem fitsV_list {s : Sch} {v : Val} {t : Typ} {w : Bool} (h6 : v.kind = 6) (hr : rightT t = true) (hl : t.lists ≠ 0) : fitsV s v t w = fitsL s v.l (itemT t) := by
  rw [fitsV_eq, if_neg (by omega), if_neg (by omega), if_neg hl, if_pos h6, hr]; rfl
theorem fitsV_bare {s : Sch} {v : Val} {t : Typ} {w : Bool} (h8 : v.kind ≠ 8) (h0 : v.kind ≠ 0) (hr : rightT t = true) (hl : t.lists = 0) : fitsV s v t w = bareV s t.name v := by
  rw [fitsV_eq, if_neg h8, if_neg h0, if_pos hl, hr]; rfl
theorem fitsV_wrong {s : Sch} {v : Val} {t : Typ} {w : Bool} (hr : rightT t = false) : fitsV s v t w = false := by
  rw [fitsV_eq, hr]; simp
/-- literal.Right -/
def litR (s : Sch) (t : Typ) (v : Val) : Bool := allV good v && fitsV s v t false

/-! Where variables stand. -/
mutual
/-- .. as the program reckons it. -/
def spotsP (s : Sch) : Val → Typ → Bool → List Spt
  | .mk k n str l m, t, has =>
    if k = 8 then [⟨str, t, has⟩] else if k = 6 then (if rightT t = true ∧ t.lists ≠ 0 then spotsPL s l (itemT t) else []) else if k = 7 then spotsPM s m (findR s t.name).1.params else []
def spotsPL (s : Sch) : List Val → Typ → List Spt
  | [], _ => []
  | v :: l, t => spotsP s v t false ++ spotsPL s l t
def spotsPM (s : Sch) : List Mem → List Par → List Spt
  | [], _ => []
  | .mk nm v :: m, ps => (match parO ps nm with | none => [] | some p => spotsP s v p.t p.has) ++ spotsPM s m ps
end
mutual
/-- .. as the page reckons it. -/
def spotsR (s : Sch) : Val → Typ → Bool → List Spt
  | .mk k n str l m, t, has =>
    if k = 8 then [⟨str, t, has⟩] else if k = 6 then (if rightT t = true ∧ t.lists ≠ 0 then spotsRL s l (itemT t) else []) else if k = 7 then spotsRM s m (findR s t.name).1.params else []
def spotsRL (s : Sch) : List Val → Typ → List Spt
  | [], _ => []
  | v :: l, t => spotsR s v t false ++ spotsRL s l t
def spotsRM (s : Sch) : List Mem → List Par → List Spt
  | [], _ => []
  | .mk nm v :: m, ps => spotsR s v (parR ps nm).1.t (parR ps nm).1.has ++ spotsRM s m ps
end
theorem bareB_six {s : Sch} {name : Str} {k n : Int} {str : Str} {inp : List Par → Bool} (h : bareB s name k n str inp = true) : k ≠ 6 := by
  rintro rfl
  unfold bareB at h
  split at h
  · cases h
  · split at h
    · simp at h
    · split at h
      · simp at h
      · split at h
        · unfold scalFit at h
          repeat' split at h
          all_goals simp at h
        · cases h
theorem bareB_seven {s : Sch} {name : Str} {n : Int} {str : Str} {inp : List Par → Bool} (h : bareB s name 7 n str inp = true) : inp (findR s name).1.params = true := by
  unfold bareB at h
  unfold findR
  split at h
  · cases h
  · rename_i d hd
    rw [hd]
    split at h
    · simp at h
    · split at h
      · simpa using h
      · split at h
        · unfold scalFit at h
          repeat' split at h
          all_goals simp at h
        · cases h
theorem fitsV_six {s : Sch} {n : Int} {str : Str} {l : List Val} {m : List Mem} {t : Typ} {w : Bool} (h : fitsV s (.mk 6 n str l m) t w = true) : rightT t = true ∧ t.lists ≠ 0 ∧ fitsL s l (itemT t) = true := by
  rw [fitsV, if_neg (by decide), if_neg (by decide)] at h
  simp only [Bool.and_eq_true] at h
  obtain ⟨h1, h2⟩ := h
  by_cases c : t.lists = 0
  · rw [if_pos c] at h2
    exact absurd rfl (bareB_six h2)
  · rw [if_neg c, if_pos trivial] at h2
    exact ⟨h1, c, h2⟩
theorem fitsV_seven {s : Sch} {n : Int} {str : Str} {l : List Val} {m : List Mem} {t : Typ} {w : Bool} (h : fitsV s (.mk 7 n str l m) t w = true) : fitsM s (findR s t.name).1.params m [] = true := by
  rw [fitsV, if_neg (by decide), if_neg (by decide)] at h
  simp only [Bool.and_eq_true] at h
  obtain ⟨h1, h2⟩ := h
  have h3 : bareB s t.name 7 n str (fun ps => fitsM s ps m [] && needsB m ps) = true := by
    by_cases c : t.lists = 0
    · rw [if_pos c] at h2; exact h2
    · rw [if_neg c, if_neg (by decide)] at h2
      simp only [Bool.and_eq_true] at h2
      exact h2.2
  have := bareB_seven h3
  simp only [Bool.and_eq_true] at this
  exact this.1
mutual
theorem spots_eq (s : Sch) : ∀ (v : Val) (t : Typ) (w has : Bool), fitsV s v t w = true → spotsR s v t has = spotsP s v t has
  | .mk k n str l m, t, w, has, h => by
    rw [spotsR, spotsP]
    by_cases h8 : k = 8
    · rw [if_pos h8, if_pos h8]
    · rw [if_neg h8, if_neg h8]
      by_cases h6 : k = 6
      · subst h6
        obtain ⟨h1, h2, h3⟩ := fitsV_six h
        rw [if_pos rfl, if_pos rfl, if_pos ⟨h1, h2⟩, if_pos ⟨h1, h2⟩, spots_eqL s l (itemT t) h3]
      · rw [if_neg h6, if_neg h6]
        by_cases h7 : k = 7
        · subst h7
          rw [if_pos rfl, if_pos rfl, spots_eqM s m _ [] (fitsV_seven h)]
        · rw [if_neg h7, if_neg h7]
theorem spots_eqL (s : Sch) : ∀ (l : List Val) (t : Typ), fitsL s l t = true → spotsRL s l t = spotsPL s l t
  | [], _, _ => by rw [spotsRL, spotsPL]
  | v :: l, t, h => by
    rw [fitsL, Bool.and_eq_true] at h
    rw [spotsRL, spotsPL, spots_eq s v t true false h.1, spots_eqL s l t h.2]
theorem spots_eqM (s : Sch) : ∀ (m : List Mem) (ps : List Par) (seen : List Str), fitsM s ps m seen = true → spotsRM s m ps = spotsPM s m ps
  | [], _, _, _ => by rw [spotsRM, spotsPM]
  | .mk nm v :: m, ps, seen, h => by
    rw [fitsM, Bool.and_eq_true, Bool.and_eq_true] at h
    obtain ⟨h1, h2, h3⟩ := h
    rw [spotsRM, spotsPM, spots_eqM s m ps _ h3]
    unfold parR
    cases hp : parO ps nm with
    | none => rw [hp] at h1; cases h1
    | some p =>
      rw [hp] at h1
      simp only
      rw [spots_eq s v p.t false p.has h1]
end

/-! The variables of a value, each once. -/
def addNew (l : List Str) (x : Str) : List Str := if x ∈ l then l else l ++ [x]
mutual
def varsV : Val → List Str → List Str
  | .mk k n str l m, acc => if k = 8 then addNew acc str else if k = 6 then varsL l acc else if k = 7 then varsM m acc else acc
def varsL : List Val → List Str → List Str
  | [], acc => acc
  | v :: l, acc => varsL l (varsV v acc)
def varsM : List Mem → List Str → List Str
  | [], acc => acc
  | .mk _ v :: m, acc => varsM m (varsV v acc)
end
mutual
theorem vars_spots (s : Sch) : ∀ (v : Val) (t : Typ) (w has : Bool) (acc : List Str), fitsV s v t w = true → varsV v acc = ((spotsP s v t has).map Spt.var).foldl addNew acc
  | .mk k n str l m, t, w, has, acc, h => by
    rw [varsV, spotsP]
    by_cases h8 : k = 8
    · rw [if_pos h8, if_pos h8]; rfl
    · rw [if_neg h8, if_neg h8]
      by_cases h6 : k = 6
      · subst h6
        obtain ⟨h1, h2, h3⟩ := fitsV_six h
        rw [if_pos rfl, if_pos rfl, if_pos ⟨h1, h2⟩, vars_spotsL s l (itemT t) acc h3]
      · rw [if_neg h6, if_neg h6]
        by_cases h7 : k = 7
        · subst h7
          rw [if_pos rfl, if_pos rfl, vars_spotsM s m _ [] acc (fitsV_seven h)]
        · rw [if_neg h7, if_neg h7]; rfl
theorem vars_spotsL (s : Sch) : ∀ (l : List Val) (t : Typ) (acc : List Str), fitsL s l t = true → varsL l acc = ((spotsPL s l t).map Spt.var).foldl addNew acc
  | [], _, _, _ => by rw [varsL, spotsPL]; rfl
  | v :: l, t, acc, h => by
    rw [fitsL, Bool.and_eq_true] at h
    rw [varsL, spotsPL, List.map_append, List.foldl_append, ← vars_spots s v t true false acc h.1, vars_spotsL s l t _ h.2]
theorem vars_spotsM (s : Sch) : ∀ (m : List Mem) (ps : List Par) (seen acc : List Str), fitsM s ps m seen = true → varsM m acc = ((spotsPM s m ps).map Spt.var).foldl addNew acc
  | [], _, _, _, _ => by rw [varsM, spotsPM]; rfl
  | .mk nm v :: m, ps, seen, acc, h => by
    rw [fitsM, Bool.and_eq_true, Bool.and_eq_true] at h
    obtain ⟨h1, h2, h3⟩ := h
    rw [varsM, spotsPM, List.map_append, List.foldl_append, vars_spotsM s m ps _ _ h3]
    cases hp : parO ps nm with
    | none => rw [hp] at h1; cases h1
    | some p =>
      rw [hp] at h1
      simp only
      rw [← vars_spots s v p.t false p.has acc h1]
end

/-! Plain laws. -/
theorem fitsV_two {s : Sch} {v : Val} {t u : Typ} {w : Bool} (h0 : v.kind ≠ 0) (ht : rightT t = true) (hu : rightT u = true) (hl : t.lists = u.lists) (hn : t.name = u.name) (hi : itemT t = itemT u) : fitsV s v t w = fitsV s v u w := by
  rw [fitsV_eq, fitsV_eq, ht, hu, hl, hn, hi, if_neg h0, if_neg h0]
theorem rightT_bits {t u : Typ} (ht : rightT t = true) (hn : u.name = t.name) (hl : u.lists = t.lists) (hm : u.musts / 2 = t.musts / 2) : rightT u = true := by
  rw [rightT_iff] at *
  obtain ⟨h1, h2, h3, h4, h5⟩ := ht
  rw [hn, hl]
  rw [Int.pow_succ] at h5 ⊢
  have h6 : t.musts / 2 < 2 ^ t.lists.toNat := by omega
  exact ⟨h1, h2, h3, by omega, by omega⟩
theorem bareT_name (t : Typ) : (bareT t).name = t.name ∧ (bareT t).lists = t.lists ∧ (bareT t).musts / 2 = t.musts / 2 := by
  unfold bareT
  split
  · refine ⟨rfl, rfl, ?_⟩
    show (if t.musts % 2 = 1 then t.musts - 1 else t.musts) / 2 = _
    split <;> omega
  · exact ⟨rfl, rfl, rfl⟩
theorem mustT_name (t : Typ) : (mustT t).name = t.name ∧ (mustT t).lists = t.lists ∧ (mustT t).musts / 2 = t.musts / 2 := by
  unfold mustT
  split
  · refine ⟨rfl, rfl, ?_⟩
    show (if t.musts % 2 = 1 then t.musts else t.musts + 1) / 2 = _
    split <;> omega
  · exact ⟨rfl, rfl, rfl⟩
theorem right_bareT {t : Typ} (h : rightT t = true) : rightT (bareT t) = true := rightT_bits h (bareT_name t).1 (bareT_name t).2.1 (bareT_name t).2.2
theorem right_mustT {t : Typ} (h : rightT t = true) : rightT (mustT t) = true := rightT_bits h (mustT_name t).1 (mustT_name t).2.1 (mustT_name t).2.2
theorem is_bareT {t : Typ} (h : rightT t = true) : isT (bareT t) = false := by
  unfold isT
  have e : (bareT t).musts % 2 = 0 := by
    unfold bareT
    rw [if_pos h]
    show (if t.musts % 2 = 1 then t.musts - 1 else t.musts) % 2 = 0
    split <;> omega
  rw [e]; simp
theorem is_mustT {t : Typ} (h : rightT t = true) : isT (mustT t) = true := by
  unfold isT
  have e : (mustT t).musts % 2 = 1 := by
    unfold mustT
    rw [if_pos h]
    show (if t.musts % 2 = 1 then t.musts else t.musts + 1) % 2 = 1
    split <;> omega
  rw [e, right_mustT h]; rfl
theorem item_same {t u : Typ} (hn : u.name = t.name) (hl : u.lists = t.lists) (hm : u.musts / 2 = t.musts / 2) : itemT u = itemT t := by
  unfold itemT; rw [hn, hl, hm]
theorem fits_bare_must {s : Sch} {v : Val} {t : Typ} {w : Bool} (h : rightT t = true) (h0 : v.kind ≠ 0) : fitsV s v (bareT t) w = fitsV s v (mustT t) w := by
  obtain ⟨a1, a2, a3⟩ := bareT_name t
  obtain ⟨b1, b2, b3⟩ := mustT_name t
  exact fitsV_two h0 (right_bareT h) (right_mustT h) (a2.trans b2.symm) (a1.trans b1.symm) ((item_same a1 a2 a3).trans (item_same b1 b2 b3).symm)
theorem fits_null {s : Sch} {v : Val} {t : Typ} {w : Bool} (h0 : v.kind = 0) : fitsV s v t w = (rightT t && !isT t) := by
  rw [fitsV_eq, if_neg (by omega), if_pos h0]
theorem lit_bare (s : Sch) (t : Typ) (v : Val) (h : rightT t = true) : (litR s (mustT t) v = true → litR s (bareT t) v = true) ∧ (v.kind ≠ 0 → litR s (bareT t) v = litR s (mustT t) v) ∧ litR s t zeroVal = !isT t := by
  refine ⟨fun hb => ?_, fun h0 => ?_, ?_⟩
  · unfold litR at *
    rw [Bool.and_eq_true] at *
    refine ⟨hb.1, ?_⟩
    by_cases h0 : v.kind = 0
    · rw [fits_null h0, right_bareT h, is_bareT h]; rfl
    · rw [fits_bare_must h h0]; exact hb.2
  · unfold litR
    rw [fits_bare_must h h0]
  · unfold litR
    rw [fits_null rfl, h]
    rw [show allV good zeroVal = true from rfl]; rfl
theorem right_listT {t : Typ} (h : rightT t = true) (hl : t.lists ≠ 4) : rightT (listT t) = true := by
  rw [rightT_iff] at *
  obtain ⟨h1, h2, h3, h4, h5⟩ := h
  refine ⟨h1, ?_, ?_, ?_, ?_⟩
  · show 0 ≤ t.lists + 1; omega
  · show t.lists + 1 ≤ 4; omega
  · show 0 ≤ t.musts * 2; omega
  · show t.musts * 2 < 2 ^ ((t.lists + 1).toNat + 1)
    rw [show (t.lists + 1).toNat = t.lists.toNat + 1 by omega, Int.pow_succ 2 (t.lists.toNat + 1)]
    omega
theorem item_listT (t : Typ) : itemT (listT t) = t := by
  unfold itemT listT
  have e1 : t.lists + 1 - 1 = t.lists := by omega
  have e2 : t.musts * 2 / 2 = t.musts := by omega
  simp only [e1, e2]
theorem lit_alone (s : Sch) (t : Typ) (v : Val) (h : rightT t = true) (hl : t.lists ≠ 4) (h6 : v.kind ≠ 6) (h8 : v.kind ≠ 8) (h0 : v.kind ≠ 0) :
    litR s (listT t) v = litR s t v ∧ litR s (mustT (listT t)) v = litR s t v := by
  have hr := right_listT h hl
  have hm := right_mustT hr
  have hl0 : (listT t).lists ≠ 0 := by
    have := (rightT_iff.1 h).2.1
    show t.lists + 1 ≠ 0; omega
  obtain ⟨b1, b2, b3⟩ := mustT_name (listT t)
  unfold litR
  refine ⟨?_, ?_⟩
  · rw [fitsV_down h8 h0 h6 hr hl0, item_listT]; rfl
  · rw [fitsV_down h8 h0 h6 hm (by rw [b2]; exact hl0), item_same b1 b2 b3, item_listT]; rfl
/-- An item of a list that is written may stand there as itself. -/
theorem fits_within (s : Sch) (v : Val) (t : Typ) : fitsV s v t true = (fitsV s v t false && (decide (t.lists = 0) || (v.kind == 6 || v.kind == 8 || v.kind == 0))) := by
  rw [fitsV_eq, fitsV_eq]
  by_cases h8 : v.kind = 8
  · simp [h8]
  · by_cases h0 : v.kind = 0
    · simp [h0]
    · by_cases hl : t.lists = 0
      · simp [h8, h0, hl]
      · by_cases h6 : v.kind = 6
        · simp [h6, hl]
        · simp [h8, h0, h6, hl]
theorem lit_lists (s : Sch) (t : Typ) (l : List Val) (n : Int) (str : Str) (h : rightT t = true) (hl : t.lists ≠ 4) :
    litR s (listT t) (.mk 6 0 [] l []) = l.all (fun x => litR s t x && (decide (t.lists = 0) || (x.kind == 6 || x.kind == 8 || x.kind == 0))) ∧ (t.lists = 0 → litR s t (.mk 6 0 [] l []) = false) := by
  have hl0 : (listT t).lists ≠ 0 := by
    have := (rightT_iff.1 h).2.1
    show t.lists + 1 ≠ 0; omega
  refine ⟨?_, fun h0 => ?_⟩
  · unfold litR
    rw [fitsV_list rfl (right_listT h hl) hl0, item_listT, allV]
    show ((if (6 : Int) = 6 then allL good l && true else _) && fitsL s l t) = _
    rw [if_pos rfl, Bool.and_true]
    induction l with
    | nil => rw [allL, fitsL]; rfl
    | cons x l ih =>
      rw [allL, fitsL, List.all_cons, ← ih, fits_within]
      cases allV good x <;> cases fitsV s x t false <;> cases allL good l <;> simp
  · unfold litR
    rw [fitsV_bare (v := .mk 6 0 [] l []) (show (6 : Int) ≠ 8 by decide) (show (6 : Int) ≠ 0 by decide) h h0]
    have : bareV s t.name (.mk 6 0 [] l []) ≠ true := fun e => absurd rfl (bareB_six e)
    simp at this
    rw [this, Bool.and_false]
end Go.Proofs.YtegakkonlhmeaaaGreatDoor
namespace Go.Av
open Go
set_option linter.unusedSectionVars false
set_option linter.unusedVariables false
variable [Globals]
/-- A new variable, as a slice of one element: it does not stand in the way of what reads objects. -/
theorem A.allocv {P : Program} [Lay P] {all : Array Oper} {draw : Bool} {K : AX → Slots → St → Prop} {rest : List Oper} {acc : List Tag} {s : Slots} {σ : St} {ty : TypeId} {pos : String} {af : Array Edge} {d : Tmp} {T : TypeId} {k z : Nat} {x : AV} {T' : List Tok} {ti : TI} (hT : ty? P T = some ti) (hz' : ti.size = z) (hx : ti.zero = x)
    (hk : smallLen σ.T = some k) (hT' : snocK σ.T (.vec [x]) some = some T')
    (kk : AOps P all draw K rest (.tk :: acc) ((d, .vptr k z 1 0 0) :: s) ⟨σ.B, T'⟩) : AOps P all draw K (⟨some d, .alloc T, ty, pos, af, none⟩ :: rest) acc s σ :=
  A.step (t := .tk) (σ' := ⟨σ.B, T'⟩) rfl ⟨rfl, fun B => by
    intro g w a next Q hI ho hn
    subst hz'; subst hx
    obtain ⟨zv, hz, hz1, hz2, hz3⟩ := run_zero' hT w
    have h1 : Rep g w ti.zero zv := by rw [← hz1]; exact rep_ofConst g w zv
    have hTe : σ.T ++ [.vec [ti.zero]] = T' := Option.some.inj (snocK_spec _ _ _ _ hT')
    have hkl : σ.T.length = k := smallLen_spec hk
    have hnone : g.tk[k]? = none := by
      have hlt : g.tk.length = σ.T.length := hI.lenT
      rw [← hkl, ← hlt]; simp
    have hzone : ∀ b o, (⟨some ⟨w.heap.size, 0, none⟩, 1, 1, ti.size, 0⟩ : Rec).zone b o → b = w.heap.size ∧ o < zv.cells.size := by
      rintro b o ⟨p, hp, rfl, e1, e2⟩
      cases hp
      refine ⟨rfl, ?_⟩
      rw [hz2]
      simpa using e2
    obtain ⟨g', e1, e2, e3, _⟩ := retk (k := k) (r' := ⟨some ⟨w.heap.size, 0, none⟩, 1, 1, ti.size, 0⟩) (t' := .vec [ti.zero]) (J := fun _ _ => False) hI (w' := pushW w (.cells zv.cells T)) (.inr ⟨hkl.symm, rfl⟩)
      (by rw [push_size]; exact Nat.le_succ _) rfl rfl rfl (fun b hb _ => push_old w _ hb) (fun b o hb _ => (cell_old (push_old w _ hb)).1) (fun b o hb => (cell_old (push_old w _ hb)).2) (fun _ _ h => h.elim)
      (fun b o ho => by
        obtain ⟨rfl, h2⟩ := hzone b o ho
        exact ⟨⟨zv.cells[o], (new_data_cell w zv.cells T o).trans (Array.getElem?_eq_getElem h2)⟩, new_data_frozen w zv.cells T o, .inl (Nat.le_refl _)⟩)
      (fun r hr => by rw [hnone] at hr; cases hr)
      (fun g' hle => ⟨rfl, rfl, Nat.le_refl _, [zv], ⟨zv, [], rfl, Rep.mono hle _ _ h1, rfl⟩, (fun e => by cases e), (fun V hV => by rw [List.mem_singleton.1 hV]; exact hz2), (fun p hp => by
        cases hp
        refine ⟨.inl rfl, inMemE_of_flat (fun V hV => by rw [List.mem_singleton.1 hV]; exact hz2) fun j u hj => ?_⟩
        have hj' : zv.cells.toList[j]? = some u := by simpa [flat] using hj
        refine ⟨trivial, ?_, hz3 u (List.mem_of_getElem? hj')⟩
        show (pushW w (.cells zv.cells T)).cell? ⟨w.heap.size, 0 + j, none⟩ = some u
        rw [Nat.zero_add]
        exact (new_data_cell w zv.cells T j).trans (by simpa using hj'))⟩)
    unfold Oper.wp
    simp only [execOp, Instr.alloc, hz, newVar, newRow, newObj, Sem.run_bind, Result.andThen, Sem.run]
    exact hn _ _ _ e1 (hTe ▸ e2) ⟨w.heap.size, 0, rfl, by omega, _, e3, rfl, Nat.le_refl _, fun _ => ⟨rfl, _, rfl, rfl, rfl, by simp⟩⟩⟩ kk

/-- A variable of its own is never written any more. -/
theorem Turn.freezeP {σ : St} {k z n j : Nat} {xs : List AV} {y : AV} {T' : List Tok} (hT : σ.T[k]? = some (.vec xs)) (hn : xs.length = n) (hy : xs[j]? = some y) (hT' : setTK k (.len (n + 1)) σ.T some = some T') :
    Turn σ (.vptr k z n j 0) ⟨σ.B, T'⟩ (.rptr y) := fun g w v hI hr => by
  obtain ⟨kl, hTe⟩ := setTK_spec _ _ _ _ _ hT'
  obtain ⟨r0, Vs, p, hv, hp, hps, rfl, hj⟩ := vptr_at hI hr hT hn
  obtain ⟨V, hV, hrV⟩ := hv.rep.get hy
  have hkl : k < σ.T.length := (List.getElem?_eq_some_iff.1 hT).1
  obtain ⟨g', e1, e2, e3, e4⟩ := retk (r' := ⟨none, n + 1, 0, z, n + 1⟩) (t' := .len (n + 1)) (J := fun b o => r0.zone b o) hI (w' := w) (.inl ⟨hkl, rfl⟩) (Nat.le_refl _) rfl rfl rfl (fun _ _ _ => rfl) (fun _ _ _ _ => rfl) (fun _ _ _ => rfl)
    (fun b o hzo => ⟨(fun ⟨p, hp, _⟩ => by cases hp), hI.z_lt hv.hr hzo, .inr ⟨r0, hv.hr, hzo⟩⟩)
    (fun b o ⟨p, hp, _⟩ => by cases hp) (fun r1 hr1 => by
      have : r1 = r0 := Option.some.inj (hr1.symm.trans hv.hr)
      subst this
      exact .inr ⟨by rw [hv.n, hn]; show n < n + 1; omega, by rw [hv.sz]⟩) (fun g' _ => ⟨rfl, rfl⟩)
  refine ⟨g', e1, ?_, p.block, p.off + j * z + 0, V, rfl, fun i x hi => ?_, Rep.mono e1.le _ _ hrV⟩
  · rw [← Option.some.inj hTe]; exact e2
  · obtain ⟨m1, m2⟩ := (hv.mem p hp).2 j V hV
    obtain ⟨_, m3, m4⟩ := m2 i x hi
    have hi' : i < z := by have := (Array.getElem?_eq_some_iff.1 hi).1; omega
    have hb : (j + 1) * z ≤ r0.cap * z := Nat.mul_le_mul_right _ (by have := hv.cap; have := hv.len; omega)
    rw [Nat.succ_mul] at hb
    have hz := hv.zone hp (o := j * z + i) (by omega)
    rw [← Nat.add_assoc] at hz
    rw [Nat.add_zero]
    exact ⟨e4 _ _ hz, m3, m4⟩
end Go.Av
namespace Go.Proofs.YtegakkonlhmeaaaGreatDoor
open Go Go.Av
set_option maxRecDepth 100000
set_option maxHeartbeats 8000000
set_option linter.unusedVariables false
set_option linter.unusedSimpArgs false
def idxFrom {α : Type} (p : α → Bool) : List α → Nat → Int
  | [], _ => -1
  | x :: l, k => if p x then (k : Int) else idxFrom p l (k + 1)
theorem idxFrom_drop {α : Type} {p : α → Bool} {l : List α} {k : Nat} (h : k < l.length) : idxFrom p (l.drop k) k = if p l[k] then (k : Int) else idxFrom p (l.drop (k + 1)) (k + 1) := by
  rw [List.drop_eq_getElem_cons h, idxFrom]

theorem idxFrom_spec {α : Type} (p : α → Bool) : ∀ (l : List α) (k : Nat), (idxFrom p l k = -1 ∧ l.find? p = none) ∨ ∃ (j : Nat) (h : j < l.length), idxFrom p l k = ((k + j : Nat) : Int) ∧ l.find? p = some l[j]
  | [], k => .inl ⟨rfl, rfl⟩
  | x :: l, k => by
    by_cases e : p x = true
    · exact .inr ⟨0, by simp, by simp [idxFrom, e], by simp [e]⟩
    · rcases idxFrom_spec p l (k + 1) with ⟨h1, h2⟩ | ⟨j, h, h1, h2⟩
      · exact .inl ⟨by simp [idxFrom, e, h1], by simp [List.find?, e, h2]⟩
      · exact .inr ⟨j + 1, by simpa using h, by simp [idxFrom, e, h1]; omega, by simp [List.find?, e, h2]⟩
theorem idx_any {α : Type} (p : α → Bool) (l : List α) : decide (0 ≤ idxFrom p l 0) = l.any p := by
  rcases idxFrom_spec p l 0 with ⟨h1, h2⟩ | ⟨j, hj, h1, h2⟩
  · rw [h1]
    rw [List.find?_eq_none] at h2
    have : l.any p = false := by rw [Bool.eq_false_iff]; intro h; obtain ⟨x, hx, hp⟩ := List.any_eq_true.1 h; exact h2 x hx hp
    rw [this]; decide
  · rw [h1]
    have hp := List.find?_some h2
    have : l.any p = true := List.any_eq_true.2 ⟨_, List.getElem_mem hj, hp⟩
    rw [this]
    exact decide_eq_true (by omega)
theorem idx_mem (l : List Str) (x : Str) : decide (0 ≤ idxFrom (fun y => x == y) l 0) = decide (x ∈ l) := by
  rw [idx_any, Bool.eq_iff_iff, List.any_eq_true, decide_eq_true_eq]
  constructor
  · rintro ⟨y, hy, e⟩; rw [beq_iff_eq] at e; subst e; exact hy
  · intro h; exact ⟨x, h, by simp⟩
theorem idx_memI (l : List Int) (x : Int) : decide (0 ≤ idxFrom (fun y => x == y) l 0) = decide (x ∈ l) := by
  rw [idx_any, Bool.eq_iff_iff, List.any_eq_true, decide_eq_true_eq]
  constructor
  · rintro ⟨y, hy, e⟩; rw [beq_iff_eq] at e; subst e; exact hy
  · intro h; exact ⟨x, h, by simp⟩
end Go.Proofs.YtegakkonlhmeaaaGreatDoor
