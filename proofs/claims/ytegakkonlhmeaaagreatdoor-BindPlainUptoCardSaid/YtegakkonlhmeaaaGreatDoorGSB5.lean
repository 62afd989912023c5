/-
  Contracts and plain facts for a law, joined.
-/
import Derived.Test.YtegakkonlhmeaaaGreatDoorGSB4
import Derived.Test.YtegakkonlhmeaaaGreatDoorGSB2
set_option maxRecDepth 100000
set_option maxHeartbeats 16000000
set_option linter.unusedVariables false
set_option linter.unusedSimpArgs false
set_option linter.unusedSectionVars false
namespace Go.Proofs.YtegakkonlhmeaaaGreatDoor
open Go Go.Av
inductive Reach (next : Str → List Str) (l0 : List Str) : Str → Prop where
  | base {x : Str} : x ∈ l0 → Reach next l0 x
  | step {x y : Str} : Reach next l0 x → y ∈ next x → Reach next l0 y
def cntU (U l : List Str) : Nat := U.countP fun u => !decide (u ∈ l)
theorem mem_addNew {l : List Str} {x y : Str} : y ∈ addNew l x ↔ y ∈ l ∨ y = x := by
  unfold addNew
  split
  · constructor
    · exact .inl
    · rintro (h | rfl) <;> assumption
  · simp
theorem addNew_pre (l : List Str) (x : Str) : ∃ r, addNew l x = l ++ r := by
  unfold addNew
  split
  · exact ⟨[], by simp⟩
  · exact ⟨[x], rfl⟩
theorem addAll_pre (xs l : List Str) : ∃ r, xs.foldl addNew l = l ++ r := by
  induction xs generalizing l with
  | nil => exact ⟨[], by simp⟩
  | cons x xs ih =>
    obtain ⟨r1, h1⟩ := addNew_pre l x
    obtain ⟨r2, h2⟩ := ih (addNew l x)
    exact ⟨r1 ++ r2, by rw [List.foldl_cons, h2, h1, List.append_assoc]⟩
theorem cnt_new {U l : List Str} {x : Str} (hx : x ∈ U) (hn : x ∉ l) : cntU U (l ++ [x]) + 1 ≤ cntU U l := by
  unfold cntU
  induction U with
  | nil => simp at hx
  | cons u U ih =>
    have mono : ∀ V : List Str, V.countP (fun u => !decide (u ∈ l ++ [x])) ≤ V.countP (fun u => !decide (u ∈ l)) := fun V => by
      apply List.countP_mono_left
      intro v _ h
      simp at h ⊢
      exact h.1
    rw [List.countP_cons, List.countP_cons]
    by_cases e : u = x
    · subst e
      have := mono U
      simp [hn]; simpa using this
    · have hU : x ∈ U := by
        rcases List.mem_cons.1 hx with h | h
        · exact absurd h.symm e
        · exact h
      have := ih hU
      have e2 : (!decide (u ∈ l ++ [x])) = (!decide (u ∈ l)) := by simp [e]
      rw [e2]; omega
theorem cnt_addNew {U l : List Str} {x : Str} (hx : x ∈ U) : cntU U (addNew l x) + (addNew l x).length ≤ cntU U l + l.length := by
  unfold addNew
  split
  · exact Nat.le_refl _
  · rename_i h
    have := cnt_new hx h
    rw [List.length_append, List.length_singleton]; omega
theorem cnt_addAll {U xs l : List Str} (h : ∀ x ∈ xs, x ∈ U) : cntU U (xs.foldl addNew l) + (xs.foldl addNew l).length ≤ cntU U l + l.length := by
  induction xs generalizing l with
  | nil => exact Nat.le_refl _
  | cons x xs ih =>
    rw [List.foldl_cons]
    exact Nat.le_trans (ih fun y hy => h y (List.mem_cons_of_mem _ hy)) (cnt_addNew (h x (List.mem_cons_self ..)))
theorem cnt_le (U l : List Str) : cntU U l ≤ U.length := List.countP_le_length ..
theorem closeF_sub (next : Str → List Str) : ∀ (n i : Nat) (l : List Str), ∃ r, closeF next n i l = l ++ r
  | 0, _, l => ⟨[], by rw [closeF]; simp⟩
  | n + 1, i, l => by
    rw [closeF]
    split
    · exact ⟨[], by simp⟩
    · rename_i x _
      obtain ⟨r1, h1⟩ := addAll_pre (next x) l
      obtain ⟨r2, h2⟩ := closeF_sub next n (i + 1) ((next x).foldl addNew l)
      exact ⟨r1 ++ r2, by rw [h2, h1, List.append_assoc]⟩
theorem Reach.mono {n1 n2 : Str → List Str} {l1 l2 : List Str} (hl : ∀ x ∈ l1, x ∈ l2) (hn : ∀ x, ∀ y ∈ n1 x, y ∈ n2 x) {x : Str} (h : Reach n1 l1 x) : Reach n2 l2 x := by
  induction h with
  | base h => exact .base (hl _ h)
  | step _ hy ih => exact .step ih (hn _ _ hy)
theorem needFold {s : Sch} {ps : List Par} {l : List Str} {y : Str} : y ∈ ps.foldl (needAdd s) l ↔ y ∈ l ∨ ∃ p ∈ ps, needP s p = true ∧ p.t.name = y := by
  induction ps generalizing l with
  | nil => simp
  | cons p ps ih =>
    rw [List.foldl_cons, ih]
    unfold needAdd
    split
    · rename_i h
      rw [mem_addNew]
      constructor
      · rintro ((h1 | h1) | ⟨q, hq, h2⟩)
        · exact .inl h1
        · exact .inr ⟨p, List.mem_cons_self .., h, h1.symm⟩
        · exact .inr ⟨q, List.mem_cons_of_mem _ hq, h2⟩
      · rintro (h1 | ⟨q, hq, h2, h3⟩)
        · exact .inl (.inl h1)
        · rcases List.mem_cons.1 hq with rfl | hq
          · exact .inl (.inr h3.symm)
          · exact .inr ⟨q, hq, h2, h3⟩
    · rename_i h
      constructor
      · rintro (h1 | ⟨q, hq, h2⟩)
        · exact .inl h1
        · exact .inr ⟨q, List.mem_cons_of_mem _ hq, h2⟩
      · rintro (h1 | ⟨q, hq, h2, h3⟩)
        · exact .inl h1
        · rcases List.mem_cons.1 hq with rfl | hq
          · exact absurd h2 h
          · exact .inr ⟨q, hq, h2, h3⟩
theorem mem_needsP {s : Sch} {name y : Str} : y ∈ needsP s name ↔ ∃ p ∈ (findR s name).1.params, needP s p = true ∧ p.t.name = y := by
  unfold needsP; rw [needFold]; simp
theorem findR_params {s : Sch} {name : Str} {p : Par} (h : p ∈ (findR s name).1.params) : (findR s name).1 ∈ s.defs := by
  rcases findR_in s name with h1 | h1 | h1
  · exact h1
  · rw [h1] at h; simp at h
  · rw [h1] at h; simp [zeroD] at h
theorem params_all {s : Sch} {name : Str} {p : Par} (h : p ∈ (findR s name).1.params) : p.t.name ∈ allTs s :=
  List.mem_flatMap.2 ⟨_, findR_params h, List.mem_map.2 ⟨p, h, rfl⟩⟩
theorem needsP_all {s : Sch} (x : Str) : ∀ y ∈ needsP s x, y ∈ allTs s := fun y hy => by
  obtain ⟨p, hp, _, rfl⟩ := mem_needsP.1 hy
  exact params_all hp
theorem needFold_cnt {s : Sch} {U : List Str} {ps : List Par} {l : List Str} (h : ∀ p ∈ ps, p.t.name ∈ U) : cntU U (ps.foldl (needAdd s) l) + (ps.foldl (needAdd s) l).length ≤ cntU U l + l.length := by
  induction ps generalizing l with
  | nil => exact Nat.le_refl _
  | cons p ps ih =>
    rw [List.foldl_cons]
    refine Nat.le_trans (ih fun q hq => h q (List.mem_cons_of_mem _ hq)) ?_
    unfold needAdd
    split
    · exact cnt_addNew (h p (List.mem_cons_self ..))
    · exact Nat.le_refl _
theorem needsP_cnt (s : Sch) (name : Str) : cntU (allTs s) (needsP s name) + (needsP s name).length ≤ (allTs s).length := by
  refine Nat.le_trans (needFold_cnt fun p hp => params_all hp) ?_
  have := cnt_le (allTs s) []
  simpa using this
def sTypename : Str := [95, 95, 116, 121, 112, 101, 110, 97, 109, 101]
section
variable {s s' : Sch} (hf : ∀ n, findO s' n = findO s n)
include hf
end
end Go.Proofs.YtegakkonlhmeaaaGreatDoor
namespace Go.Proofs.YtegakkonlhmeaaaGreatDoor
open Go Go.Av
structure Bnd where
  how : Int
  table : Str
  col : Str
  arg : Str
  cmd : Str
  deriving DecidableEq
def Bnd.enc (b : Bnd) : AV := .agg [.int .i64 b.how, .str b.table, .str b.col, .str b.arg, .str b.cmd]
theorem Bnd.closed (b : Bnd) : b.enc.closed = true := rfl
@[simp] theorem low_Bnd (n m : Nat) (x : Bnd) : (Bnd.enc x).low n m = true := AV.low_of_closed n m _ (Bnd.closed x)
def bnd0 : Bnd := ⟨0, [], [], [], []⟩
def textsF (l : List Mem) : List Str → Option (List Str)
  | [] => some []
  | n :: ns => if (getG n l).2 = true ∧ (getG n l).1.kind = 4 ∧ (getG n l).1.s ≠ [] then (textsF l ns).map ((getG n l).1.s :: ·) else none
def textsO (l : List Mem) (ns : List Str) : Option (List Str) := if l.length = ns.length then textsF l ns else none
theorem textsF_len (l : List Mem) : ∀ (ns xs : List Str), textsF l ns = some xs → xs.length = ns.length ∧ ∀ x ∈ xs, x ≠ []
  | [], xs, h => by cases h; simp
  | n :: ns, xs, h => by
    rw [textsF] at h
    split at h
    · rename_i c
      cases e : textsF l ns with
      | none => rw [e] at h; cases h
      | some ys =>
        rw [e] at h
        cases h
        obtain ⟨a, b⟩ := textsF_len l ns ys e
        refine ⟨by simp [a], fun x hx => ?_⟩
        rcases List.mem_cons.1 hx with rfl | hx
        · exact c.2.2
        · exact b x hx
    · cases h
theorem textsO_len {l : List Mem} {ns xs : List Str} (h : textsO l ns = some xs) : xs.length = ns.length ∧ ∀ x ∈ xs, x ≠ [] := by
  unfold textsO at h
  split at h
  · exact textsF_len l ns xs h
  · cases h
theorem textsO_one {l : List Mem} {a : Str} {xs : List Str} (h : textsO l [a] = some xs) : ∃ x, xs = [x] ∧ x ≠ [] := by
  obtain ⟨h1, h2⟩ := textsO_len h
  match xs, h1 with
  | [x], _ => exact ⟨x, rfl, h2 x (by simp)⟩
theorem textsO_two {l : List Mem} {a b : Str} {xs : List Str} (h : textsO l [a, b] = some xs) : ∃ x y, xs = [x, y] ∧ x ≠ [] ∧ y ≠ [] := by
  obtain ⟨h1, h2⟩ := textsO_len h
  match xs, h1 with
  | [x, y], _ => exact ⟨x, y, rfl, h2 x (by simp), h2 y (by simp)⟩
theorem textsO_three {l : List Mem} {a b c : Str} {xs : List Str} (h : textsO l [a, b, c] = some xs) : ∃ x y z, xs = [x, y, z] ∧ x ≠ [] ∧ y ≠ [] ∧ z ≠ [] := by
  obtain ⟨h1, h2⟩ := textsO_len h
  match xs, h1 with
  | [x, y, z], _ => exact ⟨x, y, z, rfl, h2 x (by simp), h2 y (by simp), h2 z (by simp)⟩
def sCol : Str := [99, 111, 108]
def sLink : Str := [108, 105, 110, 107]
def sGet : Str := [103, 101, 116]
def sDo : Str := [100, 111]
def sName : Str := [110, 97, 109, 101]
def sTable : Str := [116, 97, 98, 108, 101]
def sArg : Str := [97, 114, 103]
def sCmd : Str := [99, 109, 100]
def sAdd : Str := [97, 100, 100]
def sPut : Str := [112, 117, 116]
def sCut : Str := [99, 117, 116]
def sBurn : Str := [98, 117, 114, 110]
def getB (f : Fld) (table arg : Str) : Bnd × Bool := match parO f.params arg with
  | none => (bnd0, false)
  | some p => if (p.t.name = sID ∨ p.t.name = sString) ∧ p.t.lists = f.t.lists then (⟨2, table, [], arg, []⟩, true) else (bnd0, false)
def doB (l : List Mem) : Bnd × Bool := match textsO l [sCmd, sTable, sCol] with
  | some [a, b, c] => (⟨3, b, c, [], a⟩, a == sAdd)
  | _ => match textsO l [sCmd, sTable] with
    | some [a, b] => (⟨3, b, [], [], a⟩, a == sPut || (a == sCut || a == sBurn))
    | _ => (bnd0, false)
def dirB (f : Fld) (d : Dirc) : Bnd × Bool :=
  if d.name = sCol then (match textsO d.args [sName] with | some [a] => (⟨0, [], a, [], []⟩, true) | _ => (bnd0, false))
  else if d.name = sLink then (match textsO d.args [sTable, sCol] with | some [a, b] => (⟨1, a, b, [], []⟩, true) | _ => (bnd0, false))
  else if d.name = sGet then (match textsO d.args [sTable, sArg] with | some [a, b] => getB f a b | _ => (bnd0, false))
  else if d.name = sDo then doB d.args else (bnd0, false)
def saidB (f : Fld) : Bnd × Bool := match f.dirs with
  | [] => (⟨0, [], f.name, [], []⟩, true)
  | [d] => dirB f d
  | _ => (bnd0, false)
def changesB (s : Sch) (typ : Str) : Bool := s.mutation != [] && typ == s.mutation
def rowsB (s : Sch) (name : Str) : Bool := compB s name && !(s.mutation != [] && decide (s.mutation ∈ possB s name))
def fitB (s : Sch) (typ : Str) (f : Fld) (how : Int) : Bool :=
  if how = 0 then leafB s f.t.name && !changesB s typ
  else if how = 3 then decide (f.t.lists = 0) && ((leafB s f.t.name || rowsB s f.t.name) && changesB s typ)
  else rowsB s f.t.name && !changesB s typ
def ofB (s : Sch) (typ : Str) (f : Fld) : Bnd × Bool := if (saidB f).2 = true ∧ f.name ≠ sTypename ∧ fitB s typ f (saidB f).1.how = true then ((saidB f).1, true) else (bnd0, false)
def bound1 (s : Sch) (d : Dfn) : Bool := d.kind == 1 && d.fields.any fun f => !(ofB s d.name f).2
def servedB (s : Sch) : Bool := decide (checkI s = 0) && !s.defs.any (bound1 s)
theorem served_iff {s : Sch} : servedB s = true ↔ checkI s = 0 ∧ ∀ d ∈ s.defs, d.kind = 1 → ∀ f ∈ d.fields, (ofB s d.name f).2 = true := by
  unfold servedB bound1
  simp only [Bool.and_eq_true, decide_eq_true_eq, Bool.not_eq_true', List.any_eq_false, Bool.not_eq_true, not_and, beq_iff_eq, Bool.not_eq_false', List.any_eq_true, not_exists, Bool.not_eq_false]
theorem said_how {f : Fld} (h : (saidB f).2 = true) : ((saidB f).1.how = 0 ∨ (saidB f).1.how = 1 ∨ (saidB f).1.how = 2 ∨ (saidB f).1.how = 3) ∧ ((saidB f).1.how = 1 ∨ (saidB f).1.how = 2 → (saidB f).1.table ≠ []) ∧
    ((saidB f).1.how = 2 → ∃ p ∈ f.params, p.name = (saidB f).1.arg ∧ p.t.lists = f.t.lists ∧ (p.t.name = sID ∨ p.t.name = sString)) := by
  unfold saidB at h ⊢
  split at h
  · simp_all
  · rename_i d hd
    unfold dirB at h ⊢
    split at h
    · rename_i c; rw [if_pos c]
      cases e : textsO d.args [sName] with
      | none => rw [e] at h; cases h
      | some xs => obtain ⟨x, rfl, _⟩ := textsO_one e; simp
    rename_i c1; rw [if_neg c1]
    split at h
    · rename_i c; rw [if_pos c]
      cases e : textsO d.args [sTable, sCol] with
      | none => rw [e] at h; cases h
      | some xs => obtain ⟨x, y, rfl, hx, hy⟩ := textsO_two e; simp [hx]
    rename_i c2; rw [if_neg c2]
    split at h
    · rename_i c; rw [if_pos c]
      cases e : textsO d.args [sTable, sArg] with
      | none => rw [e] at h; cases h
      | some xs =>
        obtain ⟨x, y, rfl, hx, hy⟩ := textsO_two e
        rw [e] at h
        dsimp only at h ⊢
        unfold getB at h ⊢
        cases ep : parO f.params y with
        | none => rw [ep] at h; cases h
        | some p =>
          rw [ep] at h
          dsimp only at h ⊢
          by_cases cc : (p.t.name = sID ∨ p.t.name = sString) ∧ p.t.lists = f.t.lists
          · rw [if_pos cc]
            refine ⟨.inr (.inr (.inl rfl)), fun _ => hx, fun _ => ⟨p, List.mem_of_find?_eq_some ep, by simpa using List.find?_some ep, cc.2, cc.1⟩⟩
          · rw [if_neg cc] at h; cases h
    rename_i c3; rw [if_neg c3]
    split at h
    · rename_i c; rw [if_pos c]
      have hd : (doB d.args).2 = true → (doB d.args).1.how = 3 := by
        unfold doB
        cases e : textsO d.args [sCmd, sTable, sCol] with
        | some xs => obtain ⟨x, y, z, rfl, _⟩ := textsO_three e; exact fun _ => rfl
        | none =>
          dsimp only
          cases e2 : textsO d.args [sCmd, sTable] with
          | some xs => obtain ⟨x, y, rfl, _⟩ := textsO_two e2; exact fun _ => rfl
          | none => intro h; cases h
      have := hd h
      omega
    · cases h
  · cases h
theorem of_said {s : Sch} {typ : Str} {f : Fld} (h : (ofB s typ f).2 = true) : (saidB f).2 = true ∧ (ofB s typ f).1 = (saidB f).1 ∧ fitB s typ f (ofB s typ f).1.how = true := by
  unfold ofB at h ⊢
  by_cases c : (saidB f).2 = true ∧ f.name ≠ sTypename ∧ fitB s typ f (saidB f).1.how = true
  · rw [if_pos c]; exact ⟨c.1, rfl, c.2.2⟩
  · rw [if_neg c] at h; cases h
theorem split_of {s : Sch} {typ : Str} {f : Fld} (h : (ofB s typ f).2 = true) : (decide ((ofB s typ f).1.how = 3) = changesB s typ) ∧ ((ofB s typ f).1.how = 0 → leafB s f.t.name = true) ∧
    ((ofB s typ f).1.how = 1 ∨ (ofB s typ f).1.how = 2 → compB s f.t.name = true ∧ (ofB s typ f).1.table ≠ []) := by
  obtain ⟨h1, h2, h3⟩ := of_said h
  obtain ⟨a1, a2, _⟩ := said_how h1
  rw [h2] at h3 ⊢
  unfold fitB rowsB at h3
  refine ⟨?_, fun e => ?_, fun e => ?_⟩
  · by_cases e0 : (saidB f).1.how = 0
    · rw [if_pos e0] at h3
      simp only [Bool.and_eq_true, Bool.not_eq_true'] at h3
      rw [h3.2, e0]; rfl
    · rw [if_neg e0] at h3
      by_cases e3 : (saidB f).1.how = 3
      · rw [if_pos e3] at h3
        simp only [Bool.and_eq_true, Bool.not_eq_true'] at h3
        rw [h3.2.2, e3]; rfl
      · rw [if_neg e3] at h3
        simp only [Bool.and_eq_true, Bool.not_eq_true'] at h3
        rw [h3.2]; simp [e3]
  · rw [if_pos e, Bool.and_eq_true] at h3; exact h3.1
  · rw [if_neg (by omega), if_neg (by omega)] at h3
    simp only [Bool.and_eq_true] at h3
    exact ⟨h3.1.1, a2 e⟩
theorem gets_of {s : Sch} {typ : Str} {f : Fld} (h : (ofB s typ f).2 = true) (e : (ofB s typ f).1.how = 2) : ∃ p ∈ f.params, p.name = (ofB s typ f).1.arg ∧ p.t.lists = f.t.lists ∧ (p.t.name = sID ∨ p.t.name = sString) := by
  obtain ⟨h1, h2, _⟩ := of_said h
  rw [h2] at e ⊢
  exact (said_how h1).2.2 e
theorem plain_of {s : Sch} {typ : Str} {f : Fld} (h : f.dirs = []) (hn : f.name ≠ sTypename) : ofB s typ f = if (leafB s f.t.name && (s.mutation == [] || typ != s.mutation)) = true then (⟨0, [], f.name, [], []⟩, true) else (bnd0, false) := by
  have e : saidB f = (⟨0, [], f.name, [], []⟩, true) := by unfold saidB; rw [h]
  have e2 : (leafB s f.t.name && !changesB s typ) = (leafB s f.t.name && (s.mutation == [] || typ != s.mutation)) := by
    unfold changesB
    rw [Bool.not_and]
    congr 1
    cases hm : s.mutation == [] <;> simp [bne, hm]
  unfold ofB
  rw [e]
  have e3 : fitB s typ f (0 : Int) = (leafB s f.t.name && !changesB s typ) := by unfold fitB; rw [if_pos rfl]
  dsimp only
  rw [e3, e2]
  by_cases c : (leafB s f.t.name && (s.mutation == [] || typ != s.mutation)) = true
  · rw [if_pos ⟨rfl, hn, c⟩, if_pos c]
  · rw [if_neg (fun x => c x.2.2), if_neg c]
end Go.Proofs.YtegakkonlhmeaaaGreatDoor
namespace Go.Proofs.YtegakkonlhmeaaaGreatDoor
open Go Go.Av
attribute [local irreducible] HCode AOps PFn AFn Av.Step TStep
theorem lBare (s : Sch) (name : Str) (v : Val) (hs : s.size ≤ 68719476736) (hv : v.size ≤ 68719476736)
    (ih : ∀ x ∈ v.m, ∀ t : Typ, t.name.length ≤ 68719476736 → PFn Tryz.prog 53 [s.enc, t.enc, x.v.enc, .bool false] (.bool (fitsV s x.v t false))) :
    PFn Tryz.prog 101 [s.enc, .str name, v.enc] (.bool (bareV s name v)) := by
  have hf := dFind s name hs
  have hsz := findR_size (name := name) hs
  have hin := lInput s (findR s name).1.params v hs hsz.1 hsz.2.2.2.2 hv ih
  have hct := sContainsStr (findR s name).1.parts v.s (by omega)
  refine AFn.plain rfl (by simp [AV.closed, AV.closedL, Sch.closed, Val.closed]) (AFn.enter [6] Tryz.func101 rfl rfl rfl rfl rfl (by decide) ?_)
  unfold bareV bareB
  unfold inputB at hin
  cases hfo : findO s name with
  | none =>
    have e : findR s name = (zeroD, false) := by rw [findR, hfo]
    rw [e] at hf
    repeat' first | refine .br ?_ | refine .seq ?_ | refine .rg ?_ | refine .rd ?_ | refine .block ?_ | refine .scope ?_ | refine .skip ?_ | refine .label ?_ | refine .exit ?_ | refine .ret ?_ | refine .ct ?_ | refine .cf ?_ | refine .cy ?_ | refine .cn ?_ | (refine .cond rfl ?_ ?_ <;> intro hc) | refine A.nil_seq ?_ | refine .nl ?_ | refine .dd ?_ | refine .ys ?_ | refine .no ?_ | (refine A.guard rfl ?_ ?_ <;> intro hc) | refine .lb ?_ | refine .ln ?_ | refine .ls ?_ | refine .pv ?_ | refine .ix ?_ | refine .pt ?_ | refine .pf ?_ | refine .bx ?_ | refine .al ?_ | refine .st ?_ | refine .ad ?_ | refine .sb ?_ | refine .mf ?_ | refine .cl ?_ | refine .cw ?_ | refine .ck ?_ | fail
    exact Fin.ret1 rfl (Weak.refl _)
  | some d =>
    have e : findR s name = (d, true) := by rw [findR, hfo]
    rw [e] at hf hin hct
    simp only at hf hin hct ⊢
    by_cases k4 : d.kind = 4
    · have q4 : (d.kind == 4) = true := by rw [k4]; rfl
      rw [if_pos k4]
      repeat' first | refine .br ?_ | refine .seq ?_ | refine .rg ?_ | refine .rd ?_ | refine .block ?_ | refine .scope ?_ | refine .skip ?_ | refine .label ?_ | refine .exit ?_ | refine .ret ?_ | refine .ct ?_ | refine .cf ?_ | refine .cy ?_ | refine .cn ?_ | (refine .cond rfl ?_ ?_ <;> intro hc) | refine A.nil_seq ?_ | refine .nl ?_ | refine .dd ?_ | refine .ys ?_ | refine .no ?_ | (refine A.guard rfl ?_ ?_ <;> intro hc) | refine .lb ?_ | refine .ln ?_ | refine .ls ?_ | refine .pv ?_ | refine .ix ?_ | refine .pt ?_ | refine .pf ?_ | refine .bx ?_ | refine .al ?_ | refine .st ?_ | refine .ad ?_ | refine .sb ?_ | refine .mf ?_ | refine .cl ?_ | refine .cw ?_ | refine .ck ?_ | fail
      all_goals
        refine Fin.ret1 rfl (Weak.eq (congrArg AV.bool ?_))
        simp_all
    · have q4 : (d.kind == 4) = false := by simp [k4]
      rw [if_neg k4]
      by_cases k5 : d.kind = 5
      · have q5 : (d.kind == 5) = true := by rw [k5]; rfl
        rw [if_pos k5]
        repeat' first | refine .br ?_ | refine .seq ?_ | refine .rg ?_ | refine .rd ?_ | refine .block ?_ | refine .scope ?_ | refine .skip ?_ | refine .label ?_ | refine .exit ?_ | refine .ret ?_ | refine .ct ?_ | refine .cf ?_ | refine .cy ?_ | refine .cn ?_ | (refine .cond rfl ?_ ?_ <;> intro hc) | refine A.nil_seq ?_ | refine .nl ?_ | refine .dd ?_ | refine .ys ?_ | refine .no ?_ | (refine A.guard rfl ?_ ?_ <;> intro hc) | refine .lb ?_ | refine .ln ?_ | refine .ls ?_ | refine .pv ?_ | refine .ix ?_ | refine .pt ?_ | refine .pf ?_ | refine .bx ?_ | refine .al ?_ | refine .st ?_ | refine .ad ?_ | refine .sb ?_ | refine .mf ?_ | refine .cl ?_ | refine .cw ?_ | refine .ck ?_ | fail
        exact Fin.ret1 rfl (Weak.refl _)
      · have q5 : (d.kind == 5) = false := by simp [k5]
        rw [if_neg k5]
        by_cases k0 : d.kind = 0
        · have q0 : (d.kind != 0) = false := by simp [k0]
          rw [if_pos k0]
          unfold scalFit
          repeat' first | refine .br ?_ | refine .seq ?_ | refine .rg ?_ | refine .rd ?_ | refine .block ?_ | refine .scope ?_ | refine .skip ?_ | refine .label ?_ | refine .exit ?_ | refine .ret ?_ | refine .ct ?_ | refine .cf ?_ | refine .cy ?_ | refine .cn ?_ | (refine .cond rfl ?_ ?_ <;> intro hc) | refine A.nil_seq ?_ | refine .nl ?_ | refine .dd ?_ | refine .ys ?_ | refine .no ?_ | (refine A.guard rfl ?_ ?_ <;> intro hc) | refine .lb ?_ | refine .ln ?_ | refine .ls ?_ | refine .pv ?_ | refine .ix ?_ | refine .pt ?_ | refine .pf ?_ | refine .bx ?_ | refine .al ?_ | refine .st ?_ | refine .ad ?_ | refine .sb ?_ | refine .mf ?_ | refine .cl ?_ | refine .cw ?_ | refine .ck ?_ | fail
          all_goals
            refine Fin.ret1 rfl (Weak.eq (congrArg AV.bool ?_))
            simp only [sInt, sString, sBoolean, sID]
            first | (simp_all; done) | (simp_all <;> omega)
        · have q0 : (d.kind != 0) = true := by simp [k0]
          rw [if_neg k0]
          repeat' first | refine .br ?_ | refine .seq ?_ | refine .rg ?_ | refine .rd ?_ | refine .block ?_ | refine .scope ?_ | refine .skip ?_ | refine .label ?_ | refine .exit ?_ | refine .ret ?_ | refine .ct ?_ | refine .cf ?_ | refine .cy ?_ | refine .cn ?_ | (refine .cond rfl ?_ ?_ <;> intro hc) | refine A.nil_seq ?_ | refine .nl ?_ | refine .dd ?_ | refine .ys ?_ | refine .no ?_ | (refine A.guard rfl ?_ ?_ <;> intro hc) | refine .lb ?_ | refine .ln ?_ | refine .ls ?_ | refine .pv ?_ | refine .ix ?_ | refine .pt ?_ | refine .pf ?_ | refine .bx ?_ | refine .al ?_ | refine .st ?_ | refine .ad ?_ | refine .sb ?_ | refine .mf ?_ | refine .cl ?_ | refine .cw ?_ | refine .ck ?_ | fail
          exact Fin.ret1 rfl (Weak.refl _)
theorem lFits (s : Sch) (hs : s.size ≤ 68719476736) : ∀ N : Nat, N ≤ 68719476736 → ∀ v : Val, v.size ≤ N → ∀ j : Nat, ∀ t : Typ, t.lists.toNat = j → t.name.length ≤ 68719476736 → ∀ w : Bool,
    PFn Tryz.prog 53 [s.enc, t.enc, v.enc, .bool w] (.bool (fitsV s v t w))
  | 0, _, v, hv => absurd hv (by have := v.size_pos; omega)
  | N + 1, hN, v, hv => by
    have ih := lFits s hs N (by omega)
    have hbare := lBare s
    have hll := v.l_len
    intro j
    induction j with
    | zero =>
      intro t hj ht w
      have hr := wRight t (by omega)
      have his := wIs t (by omega)
      have hit := wItem t (by omega)
      have hb := lBare s t.name v hs (by omega) (fun x hx u hu => ih x.v (by
        obtain ⟨k, hk, rfl⟩ := List.getElem_of_mem hx
        have := Val.size_m hk; omega) _ u rfl hu false)
      refine AFn.plain rfl (by simp [AV.closed, AV.closedL, Sch.closed, Val.closed, Typ.closed]) (AFn.enter [8] Tryz.func53 rfl rfl rfl rfl rfl (by decide) ?_)
      rw [fitsV_eq]
      unfold itemR at hit
      cases c : rightT t with
      | false =>
        rw [c] at hr
        repeat' first | refine .br ?_ | refine .seq ?_ | refine .rg ?_ | refine .rd ?_ | refine .block ?_ | refine .scope ?_ | refine .skip ?_ | refine .label ?_ | refine .exit ?_ | refine .ret ?_ | refine .ct ?_ | refine .cf ?_ | refine .cy ?_ | refine .cn ?_ | (refine .cond rfl ?_ ?_ <;> intro hc) | refine A.nil_seq ?_ | refine .nl ?_ | refine .dd ?_ | refine .ys ?_ | refine .no ?_ | (refine A.guard rfl ?_ ?_ <;> intro hc) | refine .lb ?_ | refine .ln ?_ | refine .ls ?_ | refine .pv ?_ | refine .ix ?_ | refine .pt ?_ | refine .pf ?_ | refine .bx ?_ | refine .al ?_ | refine .st ?_ | refine .ad ?_ | refine .sb ?_ | refine .mf ?_ | refine .cl ?_ | refine .cw ?_ | refine .ck ?_ | fail
        all_goals
          refine Fin.ret1 rfl (Weak.eq (congrArg AV.bool ?_))
          simp_all
      | true =>
        have hl0 : t.lists = 0 := by have := (rightT_iff.1 c).2.1; omega
        rw [c] at hr
        rw [if_neg (fun h => h.2 hl0)] at hit
        rw [if_pos hl0]
        repeat' first | refine .br ?_ | refine .seq ?_ | refine .rg ?_ | refine .rd ?_ | refine .block ?_ | refine .scope ?_ | refine .skip ?_ | refine .label ?_ | refine .exit ?_ | refine .ret ?_ | refine .ct ?_ | refine .cf ?_ | refine .cy ?_ | refine .cn ?_ | (refine .cond rfl ?_ ?_ <;> intro hc) | refine A.nil_seq ?_ | refine .nl ?_ | refine .dd ?_ | refine .ys ?_ | refine .no ?_ | (refine A.guard rfl ?_ ?_ <;> intro hc) | refine .lb ?_ | refine .ln ?_ | refine .ls ?_ | refine .pv ?_ | refine .ix ?_ | refine .pt ?_ | refine .pf ?_ | refine .bx ?_ | refine .al ?_ | refine .st ?_ | refine .ad ?_ | refine .sb ?_ | refine .mf ?_ | refine .cl ?_ | refine .cw ?_ | refine .ck ?_ | fail
        all_goals
          refine Fin.ret1 rfl (Weak.eq (congrArg AV.bool ?_))
          simp_all
    | succ j ihj =>
      intro t hj ht w
      have hr := wRight t (by omega)
      have his := wIs t (by omega)
      have hit := wItem t (by omega)
      have hl0 : t.lists ≠ 0 := by omega
      have hdown := ihj (itemT t) (by show (t.lists - 1).toNat = j; omega) ht false
      refine AFn.plain rfl (by simp [AV.closed, AV.closedL, Sch.closed, Val.closed, Typ.closed]) (AFn.enter [8] Tryz.func53 rfl rfl rfl rfl rfl (by decide) ?_)
      unfold itemR at hit
      cases c : rightT t with
      | false =>
        rw [c] at hr
        rw [fitsV_eq]
        repeat' first | refine .br ?_ | refine .seq ?_ | refine .rg ?_ | refine .rd ?_ | refine .block ?_ | refine .scope ?_ | refine .skip ?_ | refine .label ?_ | refine .exit ?_ | refine .ret ?_ | refine .ct ?_ | refine .cf ?_ | refine .cy ?_ | refine .cn ?_ | (refine .cond rfl ?_ ?_ <;> intro hc) | refine A.nil_seq ?_ | refine .nl ?_ | refine .dd ?_ | refine .ys ?_ | refine .no ?_ | (refine A.guard rfl ?_ ?_ <;> intro hc) | refine .lb ?_ | refine .ln ?_ | refine .ls ?_ | refine .pv ?_ | refine .ix ?_ | refine .pt ?_ | refine .pf ?_ | refine .bx ?_ | refine .al ?_ | refine .st ?_ | refine .ad ?_ | refine .sb ?_ | refine .mf ?_ | refine .cl ?_ | refine .cw ?_ | refine .ck ?_ | fail
        all_goals
          refine Fin.ret1 rfl (Weak.eq (congrArg AV.bool ?_))
          simp_all
      | true =>
        rw [c] at hr
        rw [if_pos ⟨c, hl0⟩] at hit
        by_cases k8 : v.kind = 8
        · have q8 : (v.kind == 8) = true := by simp [k8]
          rw [fitsV_eq, if_pos k8]
          repeat' first | refine .br ?_ | refine .seq ?_ | refine .rg ?_ | refine .rd ?_ | refine .block ?_ | refine .scope ?_ | refine .skip ?_ | refine .label ?_ | refine .exit ?_ | refine .ret ?_ | refine .ct ?_ | refine .cf ?_ | refine .cy ?_ | refine .cn ?_ | (refine .cond rfl ?_ ?_ <;> intro hc) | refine A.nil_seq ?_ | refine .nl ?_ | refine .dd ?_ | refine .ys ?_ | refine .no ?_ | (refine A.guard rfl ?_ ?_ <;> intro hc) | refine .lb ?_ | refine .ln ?_ | refine .ls ?_ | refine .pv ?_ | refine .ix ?_ | refine .pt ?_ | refine .pf ?_ | refine .bx ?_ | refine .al ?_ | refine .st ?_ | refine .ad ?_ | refine .sb ?_ | refine .mf ?_ | refine .cl ?_ | refine .cw ?_ | refine .ck ?_ | fail
          exact Fin.ret1 rfl (Weak.eq (congrArg AV.bool c.symm))
        · have q8 : (v.kind == 8) = false := by simp [k8]
          by_cases k0 : v.kind = 0
          · have q0 : (v.kind == 0) = true := by simp [k0]
            rw [fits_null k0]
            repeat' first | refine .br ?_ | refine .seq ?_ | refine .rg ?_ | refine .rd ?_ | refine .block ?_ | refine .scope ?_ | refine .skip ?_ | refine .label ?_ | refine .exit ?_ | refine .ret ?_ | refine .ct ?_ | refine .cf ?_ | refine .cy ?_ | refine .cn ?_ | (refine .cond rfl ?_ ?_ <;> intro hc) | refine A.nil_seq ?_ | refine .nl ?_ | refine .dd ?_ | refine .ys ?_ | refine .no ?_ | (refine A.guard rfl ?_ ?_ <;> intro hc) | refine .lb ?_ | refine .ln ?_ | refine .ls ?_ | refine .pv ?_ | refine .ix ?_ | refine .pt ?_ | refine .pf ?_ | refine .bx ?_ | refine .al ?_ | refine .st ?_ | refine .ad ?_ | refine .sb ?_ | refine .mf ?_ | refine .cl ?_ | refine .cw ?_ | refine .ck ?_ | fail
            all_goals
              refine Fin.ret1 rfl (Weak.eq (congrArg AV.bool ?_))
              simp_all
          · have q0 : (v.kind == 0) = false := by simp [k0]
            by_cases k6 : v.kind = 6
            · have q6 : (v.kind != 6) = false := by simp [k6]
              rw [fitsV_list k6 c hl0]
              repeat' first | refine .br ?_ | refine .seq ?_ | refine .rg ?_ | refine .rd ?_ | refine .block ?_ | refine .scope ?_ | refine .skip ?_ | refine .label ?_ | refine .exit ?_ | refine .ret ?_ | refine .ct ?_ | refine .cf ?_ | refine .cy ?_ | refine .cn ?_ | (refine .cond rfl ?_ ?_ <;> intro hc) | refine A.nil_seq ?_ | refine .nl ?_ | refine .dd ?_ | refine .ys ?_ | refine .no ?_ | (refine A.guard rfl ?_ ?_ <;> intro hc) | refine .lb ?_ | refine .ln ?_ | refine .ls ?_ | refine .pv ?_ | refine .ix ?_ | refine .pt ?_ | refine .pf ?_ | refine .bx ?_ | refine .al ?_ | refine .st ?_ | refine .ad ?_ | refine .sb ?_ | refine .mf ?_ | refine .cl ?_ | refine .cw ?_ | refine .ck ?_ | fail
              refine HCode.forK v.l.length (fun k => [(59, .int .i64 k), (58, .int .i64 v.lv.length), (57, .slice v.lv .no), (4, .rptr s.enc), (9, .ptr 0 0)])
                (fun _ => ⟨[.cells [.str t.name, .int .i64 (t.lists - 1), .int .i64 (t.musts / 2)]], []⟩) (fun k => fitsL s v.l (itemT t) = fitsL s (v.l.drop k) (itemT t)) ⟨rfl, rfl, rfl, rfl, rfl, trivial⟩ rfl rfl fun k hk hp => ?_
              by_cases h1 : k < v.l.length
              · have d1 : decide ((k : Int) < (v.lv.length : Int)) = true := by rw [v.lv_len]; simp [h1]
                have x1 := Val.lv_get h1
                have hc1 := ih v.l[k] (by have := Val.size_l h1; omega) _ (itemT t) rfl ht true
                have hd := fitsL_drop (s := s) (t := itemT t) h1
                repeat' first | refine .seq ?_ | refine .rg ?_ | refine .rd ?_ | refine .block ?_ | refine .scope ?_ | refine .skip ?_ | refine .label ?_ | refine .exit ?_ | refine .ret ?_ | refine .ct ?_ | refine .cf ?_ | refine .cy ?_ | refine .cn ?_ | (refine .cond rfl ?_ ?_ <;> intro hc) | refine A.nil_seq ?_ | refine .nl ?_ | refine .dd ?_ | refine .ys ?_ | refine .no ?_ | (refine A.guard rfl ?_ ?_ <;> intro hc) | refine .lb ?_ | refine .ln ?_ | refine .ls ?_ | refine .pv ?_ | refine .ix ?_ | refine .pt ?_ | refine .pf ?_ | refine .bx ?_ | refine .al ?_ | refine .st ?_ | refine .ad ?_ | refine .sb ?_ | refine .mf ?_ | refine .cl ?_ | refine .cw ?_ | refine .ck ?_ | fail
                all_goals first | (refine Fin.ret1 rfl (Weak.eq (congrArg AV.bool ?_)); rw [hp, hd]; simp_all; done) | (exact ⟨h1, ⟨rfl, rfl, rfl, rfl, rfl, trivial⟩, by simp [belowS, AV.low], rfl, rfl, by rw [hp, hd]; simp_all⟩)
              · have d1 : decide ((k : Int) < (v.lv.length : Int)) = false := by rw [v.lv_len]; simp; omega
                repeat' first | refine .seq ?_ | refine .rg ?_ | refine .rd ?_ | refine .block ?_ | refine .scope ?_ | refine .skip ?_ | refine .label ?_ | refine .exit ?_ | refine .ret ?_ | refine .ct ?_ | refine .cf ?_ | refine .cy ?_ | refine .cn ?_ | (refine .cond rfl ?_ ?_ <;> intro hc) | refine A.nil_seq ?_ | refine .nl ?_ | refine .dd ?_ | refine .ys ?_ | refine .no ?_ | (refine A.guard rfl ?_ ?_ <;> intro hc) | refine .lb ?_ | refine .ln ?_ | refine .ls ?_ | refine .pv ?_ | refine .ix ?_ | refine .pt ?_ | refine .pf ?_ | refine .bx ?_ | refine .al ?_ | refine .st ?_ | refine .ad ?_ | refine .sb ?_ | refine .mf ?_ | refine .cl ?_ | refine .cw ?_ | refine .ck ?_ | fail
                refine Fin.ret1 rfl (Weak.eq (congrArg AV.bool ?_))
                rw [hp, List.drop_eq_nil_of_le (by omega), fitsL]
            · have q6 : (v.kind != 6) = true := by simp [k6]
              rw [fitsV_down k8 k0 k6 c hl0]
              repeat' first | refine .br ?_ | refine .seq ?_ | refine .rg ?_ | refine .rd ?_ | refine .block ?_ | refine .scope ?_ | refine .skip ?_ | refine .label ?_ | refine .exit ?_ | refine .ret ?_ | refine .ct ?_ | refine .cf ?_ | refine .cy ?_ | refine .cn ?_ | (refine .cond rfl ?_ ?_ <;> intro hc) | refine A.nil_seq ?_ | refine .nl ?_ | refine .dd ?_ | refine .ys ?_ | refine .no ?_ | (refine A.guard rfl ?_ ?_ <;> intro hc) | refine .lb ?_ | refine .ln ?_ | refine .ls ?_ | refine .pv ?_ | refine .ix ?_ | refine .pt ?_ | refine .pf ?_ | refine .bx ?_ | refine .al ?_ | refine .st ?_ | refine .ad ?_ | refine .sb ?_ | refine .mf ?_ | refine .cl ?_ | refine .cw ?_ | refine .ck ?_ | fail
              all_goals
                refine Fin.ret1 rfl (Weak.eq (congrArg AV.bool ?_))
                simp_all
theorem lRight (s : Sch) (t : Typ) (v : Val) (hs : s.size ≤ 68719476736) (ht : t.name.length ≤ 68719476736) (hv : v.size ≤ 68719476736) : PFn Tryz.prog 22 [s.enc, t.enc, v.enc] (.bool (litR s t v)) := by
  have hg := vGood v hv
  have hf := lFits s hs 68719476736 (Nat.le_refl _) v hv _ t rfl ht false
  refine AFn.plain rfl (by simp [AV.closed, AV.closedL, Sch.closed, Val.closed, Typ.closed]) (AFn.enter [6] Tryz.func22 rfl rfl rfl rfl rfl (by decide) ?_)
  unfold litR
  repeat' first | refine .br ?_ | refine .seq ?_ | refine .rg ?_ | refine .rd ?_ | refine .block ?_ | refine .scope ?_ | refine .skip ?_ | refine .label ?_ | refine .exit ?_ | refine .ret ?_ | refine .ct ?_ | refine .cf ?_ | refine .cy ?_ | refine .cn ?_ | (refine .cond rfl ?_ ?_ <;> intro hc) | refine A.nil_seq ?_ | refine .nl ?_ | refine .dd ?_ | refine .ys ?_ | refine .no ?_ | (refine A.guard rfl ?_ ?_ <;> intro hc) | refine .lb ?_ | refine .ln ?_ | refine .ls ?_ | refine .pv ?_ | refine .ix ?_ | refine .pt ?_ | refine .pf ?_ | refine .bx ?_ | refine .al ?_ | refine .st ?_ | refine .ad ?_ | refine .sb ?_ | refine .mf ?_ | refine .cl ?_ | refine .cw ?_ | refine .ck ?_ | fail
  all_goals
    refine Fin.ret1 rfl (Weak.eq (congrArg AV.bool ?_))
    simp_all
end Go.Proofs.YtegakkonlhmeaaaGreatDoor
