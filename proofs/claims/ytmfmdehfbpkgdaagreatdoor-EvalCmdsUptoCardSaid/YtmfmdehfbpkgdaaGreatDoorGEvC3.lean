/-
  Contracts and plain facts for a law, joined.
-/
import Derived.Test.YtmfmdehfbpkgdaaGreatDoorGEvC1
import Derived.Test.YtmfmdehfbpkgdaaGreatDoorGEvC2
import Derived.Test.YtmfmdehfbpkgdaaGreatDoorAvMap
import Derived.Lib.ItoaNum
import Derived.Lib.AppendIntMem
import Derived.Lib.ValidLaws
import Derived.Test.YtmfmdehfbpkgdaaGreatDoorAvTab
import Derived.Test.YtmfmdehfbpkgdaaGreatDoorShelfF
set_option maxRecDepth 100000
set_option maxHeartbeats 16000000
set_option linter.unusedVariables false
set_option linter.unusedSimpArgs false
set_option linter.unusedSectionVars false
namespace Go.Proofs.YtmfmdehfbpkgdaaGreatDoor
open Go Go.Av
def rightT (t : Typ) : Bool := nameB t.name && (decide (0 ≤ t.lists) && (decide (t.lists ≤ 4) && (decide (0 ≤ t.musts) && decide (t.musts < 2 ^ (t.lists.toNat + 1)))))
def isT (t : Typ) : Bool := rightT t && decide (t.musts % 2 = 1)
def itemT (t : Typ) : Typ := ⟨t.name, t.lists - 1, t.musts / 2⟩
def zeroT : Typ := ⟨[], 0, 0⟩
def itemR (t : Typ) : Typ × Bool := if rightT t = true ∧ t.lists ≠ 0 then (itemT t, true) else (zeroT, false)
theorem rightT_iff {t : Typ} : rightT t = true ↔ nameB t.name = true ∧ 0 ≤ t.lists ∧ t.lists ≤ 4 ∧ 0 ≤ t.musts ∧ t.musts < 2 ^ (t.lists.toNat + 1) := by
  simp [rightT, Bool.and_eq_true, and_assoc]
theorem rightT_item {t : Typ} (h : rightT t = true) (hl : t.lists ≠ 0) : rightT (itemT t) = true := by
  rw [rightT_iff] at *
  obtain ⟨h1, h2, h3, h4, h5⟩ := h
  have e : t.lists.toNat = (t.lists - 1).toNat + 1 := by omega
  refine ⟨h1, ?_, ?_, ?_, ?_⟩
  · show 0 ≤ t.lists - 1; omega
  · show t.lists - 1 ≤ 4; omega
  · show 0 ≤ t.musts / 2; omega
  · show t.musts / 2 < 2 ^ ((t.lists - 1).toNat + 1)
    rw [e, Int.pow_succ] at h5
    omega
def sInt : Str := [73, 110, 116]
def sString : Str := [83, 116, 114, 105, 110, 103]
def sBoolean : Str := [66, 111, 111, 108, 101, 97, 110]
def sID : Str := [73, 68]
def scalarB (n : Str) : Bool := n == sInt || n == sString || n == sBoolean || n == sID
def zeroD : Dfn := ⟨0, [], [], [], [], []⟩
def findO (s : Sch) (name : Str) : Option Dfn := if scalarB name = true then some ⟨0, name, [], [], [], []⟩ else s.defs.find? (fun d => d.name == name)
def findR (s : Sch) (name : Str) : Dfn × Bool := match findO s name with
  | some d => (d, true)
  | none => (zeroD, false)
def kindB (s : Sch) (name : Str) (ks : List Int) : Bool := (findR s name).2 && decide ((findR s name).1.kind ∈ ks)
def leafB (s : Sch) (name : Str) : Bool := kindB s name [0, 4]
def compB (s : Sch) (name : Str) : Bool := kindB s name [1, 2, 3]
def entryB (s : Sch) (name : Str) : Bool := kindB s name [0, 4, 5]
abbrev zeroVal : Val := val0
def zeroP : Par := ⟨[], zeroT, false, zeroVal⟩
def parO (l : List Par) (name : Str) : Option Par := l.find? (fun p => p.name == name)
def parR (l : List Par) (name : Str) : Par × Bool := match parO l name with
  | some p => (p, true)
  | none => (zeroP, false)
def reqB (p : Par) : Bool := isT p.t && !p.has
def needsB (m : List Mem) : List Par → Bool
  | [] => true
  | p :: l => ((m.any fun x => x.name == p.name) || !reqB p) && needsB m l
def scalFit (name : Str) (k n : Int) : Bool :=
  if name = sInt then k == 2 && (decide (-2147483648 ≤ n) && decide (n ≤ 2147483647)) else if name = sString then k == 4 else if name = sBoolean then k == 1 else if name = sID then k == 4 || k == 2 else false
def bareB (s : Sch) (name : Str) (k n : Int) (str : Str) (inp : List Par → Bool) : Bool :=
  match findO s name with
  | none => false
  | some d => if d.kind = 4 then k == 5 && decide (str ∈ d.parts) else if d.kind = 5 then k == 7 && inp d.params else if d.kind = 0 then scalFit name k n else false
mutual
def fitsV (s : Sch) : Val → Typ → Bool → Bool
  | .mk k n str l m, t, w =>
    if k = 8 then rightT t else if k = 0 then rightT t && !isT t else rightT t &&
      (if t.lists = 0 then bareB s t.name k n str (fun ps => fitsM s ps m [] && needsB m ps) else if k = 6 then fitsL s l (itemT t) else !w && bareB s t.name k n str (fun ps => fitsM s ps m [] && needsB m ps))
def fitsL (s : Sch) : List Val → Typ → Bool
  | [], _ => true
  | v :: l, t => fitsV s v t true && fitsL s l t
def fitsM (s : Sch) (ps : List Par) : List Mem → List Str → Bool
  | [], _ => true
  | .mk nm v :: m, seen => (match parO ps nm with | none => false | some p => fitsV s v p.t false) && (!decide (nm ∈ seen) && fitsM s ps m (seen ++ [nm]))
end
def bareV (s : Sch) (name : Str) (v : Val) : Bool := bareB s name v.kind v.n v.s (fun ps => fitsM s ps v.m [] && needsB v.m ps)
theorem fitsV_eq (s : Sch) (v : Val) (t : Typ) (w : Bool) : fitsV s v t w = if v.kind = 8 then rightT t else if v.kind = 0 then rightT t && !isT t else rightT t &&
      (if t.lists = 0 then bareV s t.name v else if v.kind = 6 then fitsL s v.l (itemT t) else !w && bareV s t.name v) := by
  cases v; rw [fitsV]; rfl
theorem fitsL_drop {s : Sch} {t : Typ} {l : List Val} {k : Nat} (h : k < l.length) : fitsL s (l.drop k) t = (fitsV s l[k] t true && fitsL s (l.drop (k + 1)) t) := by
  rw [List.drop_eq_getElem_cons h, fitsL]
theorem fitsM_drop {s : Sch} {ps : List Par} {l : List Mem} {k : Nat} (h : k < l.length) : fitsM s ps (l.drop k) ((l.take k).map Mem.name) =
    ((match parO ps l[k].name with | none => false | some p => fitsV s l[k].v p.t false) && (!decide (l[k].name ∈ (l.take k).map Mem.name) && fitsM s ps (l.drop (k + 1)) ((l.take (k + 1)).map Mem.name))) := by
  rw [List.drop_eq_getElem_cons h, List.take_succ_eq_append_getElem h, List.map_append]
  cases hx : l[k]; rw [fitsM]; rfl
theorem fitsV_down {s : Sch} {v : Val} {t : Typ} {w : Bool} (h8 : v.kind ≠ 8) (h0 : v.kind ≠ 0) (h6 : v.kind ≠ 6) (hr : rightT t = true) (hl : t.lists ≠ 0) : fitsV s v t w = (!w && fitsV s v (itemT t) false) := by
  rw [fitsV_eq, fitsV_eq s v (itemT t), if_neg h8, if_neg h0, if_neg hl, if_neg h6, if_neg h8, if_neg h0, if_neg h6, hr, rightT_item hr hl]
  simp only [Bool.true_and, Bool.not_false, ite_self]
  rfl
theorem fitsV_list {s : Sch} {v : Val} {t : Typ} {w : Bool} (h6 : v.kind = 6) (hr : rightT t = true) (hl : t.lists ≠ 0) : fitsV s v t w = fitsL s v.l (itemT t) := by
  rw [fitsV_eq, if_neg (by omega), if_neg (by omega), if_neg hl, if_pos h6, hr]; rfl
theorem fitsV_bare {s : Sch} {v : Val} {t : Typ} {w : Bool} (h8 : v.kind ≠ 8) (h0 : v.kind ≠ 0) (hr : rightT t = true) (hl : t.lists = 0) : fitsV s v t w = bareV s t.name v := by
  rw [fitsV_eq, if_neg h8, if_neg h0, if_pos hl, hr]; rfl
theorem fitsV_wrong {s : Sch} {v : Val} {t : Typ} {w : Bool} (hr : rightT t = false) : fitsV s v t w = false := by
  rw [fitsV_eq, hr]; simp
def litR (s : Sch) (t : Typ) (v : Val) : Bool := allV good v && fitsV s v t false
def addNew (l : List Str) (x : Str) : List Str := if x ∈ l then l else l ++ [x]
mutual
def varsV : Val → List Str → List Str
  | .mk k n str l m, acc => if k = 8 then addNew acc str else if k = 6 then varsL l acc else if k = 7 then varsM m acc else acc
def varsL : List Val → List Str → List Str
  | [], acc => acc
  | v :: l, acc => varsL l (varsV v acc)
def varsM : List Mem → List Str → List Str
  | [], acc => acc
  | .mk _ v :: m, acc => varsM m (varsV v acc)
end
theorem fits_null {s : Sch} {v : Val} {t : Typ} {w : Bool} (h0 : v.kind = 0) : fitsV s v t w = (rightT t && !isT t) := by
  rw [fitsV_eq, if_neg (by omega), if_pos h0]
def idxFrom {α : Type} (p : α → Bool) : List α → Nat → Int
  | [], _ => -1
  | x :: l, k => if p x then (k : Int) else idxFrom p l (k + 1)
theorem idxFrom_drop {α : Type} {p : α → Bool} {l : List α} {k : Nat} (h : k < l.length) : idxFrom p (l.drop k) k = if p l[k] then (k : Int) else idxFrom p (l.drop (k + 1)) (k + 1) := by
  rw [List.drop_eq_getElem_cons h, idxFrom]
theorem idxFrom_spec {α : Type} (p : α → Bool) : ∀ (l : List α) (k : Nat), (idxFrom p l k = -1 ∧ l.find? p = none) ∨ ∃ (j : Nat) (h : j < l.length), idxFrom p l k = ((k + j : Nat) : Int) ∧ l.find? p = some l[j]
  | [], k => .inl ⟨rfl, rfl⟩
  | x :: l, k => by
    by_cases e : p x = true
    · exact .inr ⟨0, by simp, by simp [idxFrom, e], by simp [e]⟩
    · rcases idxFrom_spec p l (k + 1) with ⟨h1, h2⟩ | ⟨j, h, h1, h2⟩
      · exact .inl ⟨by simp [idxFrom, e, h1], by simp [List.find?, e, h2]⟩
      · exact .inr ⟨j + 1, by simpa using h, by simp [idxFrom, e, h1]; omega, by simp [List.find?, e, h2]⟩
theorem idx_any {α : Type} (p : α → Bool) (l : List α) : decide (0 ≤ idxFrom p l 0) = l.any p := by
  rcases idxFrom_spec p l 0 with ⟨h1, h2⟩ | ⟨j, hj, h1, h2⟩
  · rw [h1]
    rw [List.find?_eq_none] at h2
    have : l.any p = false := by rw [Bool.eq_false_iff]; intro h; obtain ⟨x, hx, hp⟩ := List.any_eq_true.1 h; exact h2 x hx hp
    rw [this]; decide
  · rw [h1]
    have hp := List.find?_some h2
    have : l.any p = true := List.any_eq_true.2 ⟨_, List.getElem_mem hj, hp⟩
    rw [this]
    exact decide_eq_true (by omega)
theorem idx_mem (l : List Str) (x : Str) : decide (0 ≤ idxFrom (fun y => x == y) l 0) = decide (x ∈ l) := by
  rw [idx_any, Bool.eq_iff_iff, List.any_eq_true, decide_eq_true_eq]
  constructor
  · rintro ⟨y, hy, e⟩; rw [beq_iff_eq] at e; subst e; exact hy
  · intro h; exact ⟨x, h, by simp⟩
theorem idx_memI (l : List Int) (x : Int) : decide (0 ≤ idxFrom (fun y => x == y) l 0) = decide (x ∈ l) := by
  rw [idx_any, Bool.eq_iff_iff, List.any_eq_true, decide_eq_true_eq]
  constructor
  · rintro ⟨y, hy, e⟩; rw [beq_iff_eq] at e; subst e; exact hy
  · intro h; exact ⟨x, h, by simp⟩
end Go.Proofs.YtmfmdehfbpkgdaaGreatDoor
namespace Go.Proofs.YtmfmdehfbpkgdaaGreatDoor
open Go Go.Av
attribute [local irreducible] HCode AOps PFn AFn Av.Step TStep
theorem sIndexStr (l : List Str) (x : Str) (hl : l.length ≤ 9223372036854775807) : PFn Tryz.prog 99 [.slice (l.map (AV.str)) .no, AV.str x] (.int .i64 (idxFrom (fun y => x == y) l 0)) := by
  refine AFn.plain rfl (by simp [AV.closed, AV.closedL, str_closedL]) (AFn.en [4] Tryz.func99 ?_)
  refine .go ?_
  refine HCode.forK l.length (fun k => [(8, .int .i64 k), (7, .int .i64 l.length), (0, .slice (l.map (AV.str)) .no), (1, AV.str x)]) (fun _ => ⟨[], []⟩) (fun k => idxFrom (fun y => x == y) l 0 = idxFrom (fun y => x == y) (l.drop k) k) ⟨rfl, rfl, rfl, rfl, trivial⟩ rfl rfl fun k hk hp => ?_
  by_cases h1 : k < l.length
  · have d1 : decide ((k : Int) < (l.length : Int)) = true := by simp [h1]
    have x1 := map_get' (f := AV.str) h1
    have hd := idxFrom_drop (p := fun y => x == y) h1
    repeat' first | refine .s1 ?_ | (refine .q ?_ ?_ <;> intro hc) | fail
    · refine Fin.ret1 rfl (Weak.eq ?_)
      rw [hp, hd, if_pos hc]
    · exact ⟨h1, ⟨rfl, rfl, rfl, rfl, trivial⟩, by simp [belowS, AV.low], rfl, rfl, by rw [hp, hd, if_neg (by simp [hc])]⟩
  · have d1 : decide ((k : Int) < (l.length : Int)) = false := by simp; omega
    refine .go ?_
    refine Fin.ret1 rfl (Weak.eq ?_)
    rw [hp, List.drop_eq_nil_of_le (by omega), idxFrom]
theorem sContainsStr (l : List Str) (x : Str) (hl : l.length ≤ 9223372036854775807) : PFn Tryz.prog 57 [.slice (l.map (AV.str)) .no, AV.str x] (.bool (decide (x ∈ l))) := by
  have h := sIndexStr l x hl
  refine AFn.plain rfl (by simp [AV.closed, AV.closedL, str_closedL]) (AFn.en [4] Tryz.func57 ?_)
  refine .go ?_
  exact Fin.ret1 rfl (Weak.eq (congrArg AV.bool (idx_mem l x)))
theorem sIndexInt (l : List Int) (x : Int) (hl : l.length ≤ 9223372036854775807) : PFn Tryz.prog 168 [.slice (l.map (AV.int .i64)) .no, AV.int .i64 x] (.int .i64 (idxFrom (fun y => x == y) l 0)) := by
  refine AFn.plain rfl (by simp [AV.closed, AV.closedL, int_closedL]) (AFn.en [4] Tryz.func168 ?_)
  refine .go ?_
  refine HCode.forK l.length (fun k => [(8, .int .i64 k), (7, .int .i64 l.length), (0, .slice (l.map (AV.int .i64)) .no), (1, AV.int .i64 x)]) (fun _ => ⟨[], []⟩) (fun k => idxFrom (fun y => x == y) l 0 = idxFrom (fun y => x == y) (l.drop k) k) ⟨rfl, rfl, rfl, rfl, trivial⟩ rfl rfl fun k hk hp => ?_
  by_cases h1 : k < l.length
  · have d1 : decide ((k : Int) < (l.length : Int)) = true := by simp [h1]
    have x1 := map_get' (f := AV.int .i64) h1
    have hd := idxFrom_drop (p := fun y => x == y) h1
    repeat' first | refine .s1 ?_ | (refine .q ?_ ?_ <;> intro hc) | fail
    · refine Fin.ret1 rfl (Weak.eq ?_)
      rw [hp, hd, if_pos hc]
    · exact ⟨h1, ⟨rfl, rfl, rfl, rfl, trivial⟩, by simp [belowS, AV.low], rfl, rfl, by rw [hp, hd, if_neg (by simp [hc])]⟩
  · have d1 : decide ((k : Int) < (l.length : Int)) = false := by simp; omega
    refine .go ?_
    refine Fin.ret1 rfl (Weak.eq ?_)
    rw [hp, List.drop_eq_nil_of_le (by omega), idxFrom]
theorem sContainsInt (l : List Int) (x : Int) (hl : l.length ≤ 9223372036854775807) : PFn Tryz.prog 134 [.slice (l.map (AV.int .i64)) .no, AV.int .i64 x] (.bool (decide (x ∈ l))) := by
  have h := sIndexInt l x hl
  refine AFn.plain rfl (by simp [AV.closed, AV.closedL, int_closedL]) (AFn.en [4] Tryz.func134 ?_)
  refine .go ?_
  exact Fin.ret1 rfl (Weak.eq (congrArg AV.bool (idx_memI l x)))
theorem sIndexFPar (l : List Par) (f : FuncId) (cs : List AV) (p : Par → Bool) (hl : l.length ≤ 9223372036854775807) (hcl : AV.closedL cs = true) (hf : ∀ x ∈ l, PFn Tryz.prog f (Par.enc x :: cs) (.bool (p x))) :
    PFn Tryz.prog 198 [.slice (l.map Par.enc) .no, .fn (.func f) [] cs] (.int .i64 (idxFrom p l 0)) := by
  refine AFn.plain rfl (by simp [AV.closed, AV.closedL, Par.closedL, hcl]) (AFn.en [4] Tryz.func198 ?_)
  refine .go ?_
  refine HCode.forK l.length (fun k => [(8, .int .i64 k), (7, .int .i64 l.length), (0, .slice (l.map Par.enc) .no), (1, .fn (.func f) [] cs)]) (fun _ => ⟨[], []⟩) (fun k => idxFrom p l 0 = idxFrom p (l.drop k) k) ⟨rfl, rfl, rfl, rfl, trivial⟩ rfl rfl fun k hk hp => ?_
  by_cases h1 : k < l.length
  · have d1 : decide ((k : Int) < (l.length : Int)) = true := by simp [h1]
    have x1 := map_get' (f := Par.enc) h1
    have hcc := hf l[k] (List.getElem_mem h1)
    have hd := idxFrom_drop (p := p) h1
    repeat' first | refine .s1 ?_ | (refine .q ?_ ?_ <;> intro hc) | fail
    · refine Fin.ret1 rfl (Weak.eq ?_)
      rw [hp, hd, if_pos hc]
    · exact ⟨h1, ⟨rfl, rfl, rfl, rfl, trivial⟩, by simp [belowS, AV.low, AV.lowL, AV.lowL_of_closed _ _ _ hcl], rfl, rfl, by rw [hp, hd, if_neg (by simp [hc])]⟩
  · have d1 : decide ((k : Int) < (l.length : Int)) = false := by simp; omega
    refine .go ?_
    refine Fin.ret1 rfl (Weak.eq ?_)
    rw [hp, List.drop_eq_nil_of_le (by omega), idxFrom]
theorem sIndexFFld (l : List Fld) (f : FuncId) (cs : List AV) (p : Fld → Bool) (hl : l.length ≤ 9223372036854775807) (hcl : AV.closedL cs = true) (hf : ∀ x ∈ l, PFn Tryz.prog f (Fld.enc x :: cs) (.bool (p x))) :
    PFn Tryz.prog 141 [.slice (l.map Fld.enc) .no, .fn (.func f) [] cs] (.int .i64 (idxFrom p l 0)) := by
  refine AFn.plain rfl (by simp [AV.closed, AV.closedL, Fld.closedL, hcl]) (AFn.en [4] Tryz.func141 ?_)
  refine .go ?_
  refine HCode.forK l.length (fun k => [(8, .int .i64 k), (7, .int .i64 l.length), (0, .slice (l.map Fld.enc) .no), (1, .fn (.func f) [] cs)]) (fun _ => ⟨[], []⟩) (fun k => idxFrom p l 0 = idxFrom p (l.drop k) k) ⟨rfl, rfl, rfl, rfl, trivial⟩ rfl rfl fun k hk hp => ?_
  by_cases h1 : k < l.length
  · have d1 : decide ((k : Int) < (l.length : Int)) = true := by simp [h1]
    have x1 := map_get' (f := Fld.enc) h1
    have hcc := hf l[k] (List.getElem_mem h1)
    have hd := idxFrom_drop (p := p) h1
    repeat' first | refine .s1 ?_ | (refine .q ?_ ?_ <;> intro hc) | fail
    · refine Fin.ret1 rfl (Weak.eq ?_)
      rw [hp, hd, if_pos hc]
    · exact ⟨h1, ⟨rfl, rfl, rfl, rfl, trivial⟩, by simp [belowS, AV.low, AV.lowL, AV.lowL_of_closed _ _ _ hcl], rfl, rfl, by rw [hp, hd, if_neg (by simp [hc])]⟩
  · have d1 : decide ((k : Int) < (l.length : Int)) = false := by simp; omega
    refine .go ?_
    refine Fin.ret1 rfl (Weak.eq ?_)
    rw [hp, List.drop_eq_nil_of_le (by omega), idxFrom]
end Go.Proofs.YtmfmdehfbpkgdaaGreatDoor
namespace Go.Av
open Go
section
variable [Globals]
variable {P : Program} {all : Array Oper} {draw : Bool} {K : AX → Slots → St → Prop} {rest : List Oper} {acc : List Tag} {s : Slots} {σ : St} {d : Tmp} {ty : TypeId} {pos : String} {af : Array Edge}
theorem ofInt_nat {m : Nat} (h : m < 9223372036854775808) : (BitVec.ofInt 64 (m : Int)).toNat = m := by
  rw [BitVec.ofInt_natCast, BitVec.toNat_ofNat, Nat.mod_eq_of_lt (by omega)]
theorem wrap_nat {m : Nat} (h : m < 9223372036854775808) : IntKind.i64.wrap (m : Int) = (m : Int) := IntWalk.i64_in _ (by omega)
theorem A.band {x y : Operand} {T U : TypeId} {a b : Int} {m n r : Nat} (hx : ev? s x = some (.int .i64 a)) (hy : ev? s y = some (.int .i64 b)) (ha : a = (m : Int)) (hb : b = (n : Int)) (hm : m < 9223372036854775808) (hn : n < 9223372036854775808) (hr : m &&& n = r)
    (k' : AOps P all draw K rest (.pure :: acc) ((d, .int .i64 (r : Int)) :: s) σ) : AOps P all draw K (⟨some d, .binOp .and T x y U, ty, pos, af, none⟩ :: rest) acc s σ :=
  two_ops hx hy (fun g w u v hu hv => by
    cases (show u = _ from hu); cases (show v = _ from hv)
    subst ha; subst hb
    have hle : m &&& n ≤ m := Nat.and_le_left
    have e : IntKind.i64.wrap (((BitVec.ofInt IntKind.i64.bits (m : Int)) &&& (BitVec.ofInt IntKind.i64.bits (n : Int))).toNat : Int) = (r : Int) := by
      rw [BitVec.toNat_and, show (BitVec.ofInt IntKind.i64.bits (m : Int)).toNat = m from ofInt_nat hm, show (BitVec.ofInt IntKind.i64.bits (n : Int)).toNat = n from ofInt_nat hn, hr, wrap_nat (by omega)]
    exact ⟨.int .i64 (r : Int), by simp only [eqGuard, Go.binOp, Op.intBits]; rw [e]; rfl, rfl⟩) k'
theorem or_lt {m n : Nat} (hm : m < 9223372036854775808) (hn : n < 9223372036854775808) : m ||| n < 9223372036854775808 := Nat.or_lt_two_pow (n := 63) hm hn
theorem A.bor {x y : Operand} {T U : TypeId} {a b : Int} {m n r : Nat} (hx : ev? s x = some (.int .i64 a)) (hy : ev? s y = some (.int .i64 b)) (ha : a = (m : Int)) (hb : b = (n : Int)) (hm : m < 9223372036854775808) (hn : n < 9223372036854775808) (hr : m ||| n = r)
    (k' : AOps P all draw K rest (.pure :: acc) ((d, .int .i64 (r : Int)) :: s) σ) : AOps P all draw K (⟨some d, .binOp .or T x y U, ty, pos, af, none⟩ :: rest) acc s σ :=
  two_ops hx hy (fun g w u v hu hv => by
    cases (show u = _ from hu); cases (show v = _ from hv)
    subst ha; subst hb
    have hle := or_lt hm hn
    have e : IntKind.i64.wrap (((BitVec.ofInt IntKind.i64.bits (m : Int)) ||| (BitVec.ofInt IntKind.i64.bits (n : Int))).toNat : Int) = (r : Int) := by
      rw [BitVec.toNat_or, show (BitVec.ofInt IntKind.i64.bits (m : Int)).toNat = m from ofInt_nat hm, show (BitVec.ofInt IntKind.i64.bits (n : Int)).toNat = n from ofInt_nat hn, hr, wrap_nat (by omega)]
    exact ⟨.int .i64 (r : Int), by simp only [eqGuard, Go.binOp, Op.intBits]; rw [e]; rfl, rfl⟩) k'
theorem A.bclr {x y : Operand} {T U : TypeId} {a b r : Int} (hx : ev? s x = some (.int .i64 a)) (hy : ev? s y = some (.int .i64 b)) (hr : IntKind.i64.wrap (((BitVec.ofInt IntKind.i64.bits a) &&& ~~~(BitVec.ofInt IntKind.i64.bits b)).toNat : Int) = r)
    (k' : AOps P all draw K rest (.pure :: acc) ((d, .int .i64 r) :: s) σ) : AOps P all draw K (⟨some d, .binOp .andNot T x y U, ty, pos, af, none⟩ :: rest) acc s σ :=
  two_ops hx hy (fun g w u v hu hv => by
    cases (show u = _ from hu); cases (show v = _ from hv)
    exact ⟨.int .i64 r, by simp only [eqGuard, Go.binOp, Op.intBits]; rw [hr]; rfl, rfl⟩) k'
theorem and31 (m : Nat) : m &&& 31 = m % 32 := Nat.and_two_pow_sub_one_eq_mod m 5
theorem and15 (m : Nat) : m &&& 15 = m % 16 := Nat.and_two_pow_sub_one_eq_mod m 4
theorem and7 (m : Nat) : m &&& 7 = m % 8 := Nat.and_two_pow_sub_one_eq_mod m 3
theorem and63 (m : Nat) : m &&& 63 = m % 64 := Nat.and_two_pow_sub_one_eq_mod m 6
theorem or64 (m n : Nat) (h : n < 64) : m * 64 ||| n = m * 64 + n := by
  have := Nat.two_pow_add_eq_or_of_lt (i := 6) (b := n) h m
  rw [Nat.mul_comm] at this
  exact this.symm
def tailOf : Nat → Code → Code
  | 0, c => c
  | n + 1, .seq _ y => tailOf n y
  | _ + 1, c => c
def bodyOf (f : Func) : Code := f.body.getD .skip
end
end Go.Av
namespace Go.Proofs.YtmfmdehfbpkgdaaGreatDoor
open Go Go.Av
attribute [local irreducible] HCode AOps PFn AFn Av.Step TStep
theorem shr_musts {m l : Int} (h0 : 0 ≤ l) (h4 : l ≤ 4) : m.fdiv (2 ^ min (l + 1).toNat IntKind.i64.bits) = m / 2 ^ (l.toNat + 1) := by
  have e : min (l + 1).toNat IntKind.i64.bits = l.toNat + 1 := by
    show min (l + 1).toNat 64 = _
    omega
  rw [e, Int.fdiv_eq_ediv_of_nonneg _ (Int.le_of_lt (Int.pow_pos (by decide)))]
theorem div_zero_iff {m c : Int} (h : 0 ≤ m) (hc : 0 < c) : (m / c == 0) = decide (m < c) := by
  rw [Bool.eq_iff_iff, beq_iff_eq, decide_eq_true_eq]
  constructor
  · intro e
    have h1 := Int.emod_lt_of_pos m hc
    have h2 := Int.mul_ediv_add_emod m c
    rw [e] at h2
    omega
  · exact Int.ediv_eq_zero_of_lt h
theorem wRight (t : Typ) (hs : t.name.length ≤ 9223372036854775806) : PFn Tryz.prog 111 [t.enc] (.bool (rightT t)) := by
  have hn := lName t.name hs
  refine AFn.plain rfl rfl (AFn.en [2] Tryz.func111 ?_)
  by_cases h1 : 0 ≤ t.lists
  · have e1 : decide (0 ≤ t.lists) = true := decide_eq_true h1
    by_cases h2 : t.lists ≤ 4
    · have e2 : decide (t.lists ≤ 4) = true := decide_eq_true h2
      by_cases h3 : 0 ≤ t.musts
      · have e3 : decide (0 ≤ t.musts) = true := decide_eq_true h3
        repeat' first | refine .br ?_ | refine .s1 ?_ | (refine .q ?_ ?_ <;> intro hc) | refine A.shr rfl rfl (by omega) (shr_musts h1 h2) ?_ | fail
        all_goals
          refine Fin.rb ?_
          unfold rightT
          rw [e1, e2, e3]
          try rw [div_zero_iff h3 (Int.pow_pos (by decide))]
          simp_all
      · have e3 : decide (0 ≤ t.musts) = false := decide_eq_false h3
        repeat' first | refine .br ?_ | refine .s1 ?_ | (refine .q ?_ ?_ <;> intro hc) | fail
        all_goals
          refine Fin.rb ?_
          unfold rightT
          rw [e3]; simp_all
    · have e2 : decide (t.lists ≤ 4) = false := decide_eq_false h2
      repeat' first | refine .br ?_ | refine .s1 ?_ | (refine .q ?_ ?_ <;> intro hc) | fail
      all_goals
        refine Fin.rb ?_
        unfold rightT
        rw [e2]; simp_all
  · have e1 : decide (0 ≤ t.lists) = false := decide_eq_false h1
    repeat' first | refine .br ?_ | refine .s1 ?_ | (refine .q ?_ ?_ <;> intro hc) | fail
    all_goals
      refine Fin.rb ?_
      unfold rightT
      rw [e1]; simp_all
theorem and1 (m : Nat) : m &&& 1 = m % 2 := Nat.and_two_pow_sub_one_eq_mod m 1
theorem bit0 (t : Typ) (h0 : 0 ≤ t.musts) (h1 : t.musts < 9223372036854775808) : PFn Tryz.prog 112 [t.enc, .int .i64 0] (.bool (decide (t.musts % 2 = 1))) := by
  refine AFn.plain rfl rfl (AFn.en [4] Tryz.func112 ?_)
  have e : t.musts.fdiv (2 ^ min (0 : Int).toNat IntKind.i64.bits) = t.musts := by
    rw [show (2 : Int) ^ min (0 : Int).toNat IntKind.i64.bits = 1 from rfl, Int.fdiv_eq_ediv_of_nonneg _ (by decide), Int.ediv_one]
  repeat' first | refine .br ?_ | refine .s1 ?_ | (refine .q ?_ ?_ <;> intro hc) | refine A.shr rfl rfl (by decide) e ?_ | refine A.band (m := t.musts.toNat) (n := 1) rfl rfl (by omega) rfl (by omega) (by decide) (and1 _) ?_ | fail
  refine Fin.rb ?_
  rw [Bool.eq_iff_iff, beq_iff_eq, decide_eq_true_eq]
  omega
theorem pow_le32 {l : Int} (h : l ≤ 4) : (2 : Int) ^ (l.toNat + 1) ≤ 32 := by
  have h' : l.toNat ≤ 4 := by omega
  generalize l.toNat = n at h'
  match n, h' with
  | 0, _ => decide
  | 1, _ => decide
  | 2, _ => decide
  | 3, _ => decide
  | 4, _ => decide
theorem musts_lt {t : Typ} (h : rightT t = true) : t.musts < 32 := by
  obtain ⟨_, _, h3, _, h5⟩ := rightT_iff.1 h
  have := pow_le32 h3
  omega
theorem wIs (t : Typ) (hs : t.name.length ≤ 9223372036854775806) : PFn Tryz.prog 69 [t.enc] (.bool (isT t)) := by
  have hr := wRight t hs
  refine AFn.plain rfl rfl (AFn.en [2] Tryz.func69 ?_)
  cases c : rightT t with
  | true =>
    rw [c] at hr
    have hb := bit0 t (rightT_iff.1 c).2.2.2.1 (by have := musts_lt c; omega)
    refine .gob ?_
    refine Fin.rb ?_
    unfold isT; rw [c]; rfl
  | false =>
    rw [c] at hr
    refine .gob ?_
    refine Fin.rb ?_
    unfold isT; rw [c]; rfl
theorem shr_one {m : Int} : m.fdiv (2 ^ min (1 : Int).toNat IntKind.i64.bits) = m / 2 := by
  rw [show (2 : Int) ^ min (1 : Int).toNat IntKind.i64.bits = 2 from rfl, Int.fdiv_eq_ediv_of_nonneg _ (by decide)]
theorem wItem (t : Typ) (hs : t.name.length ≤ 9223372036854775806) : PFn Tryz.prog 115 [t.enc] (.tup [(itemR t).1.enc, .bool (itemR t).2]) := by
  have hr := wRight t hs
  refine AFn.plain rfl rfl (AFn.eR [.cell 2 27, .tmp 3] Tryz.func115 ?_)
  unfold itemR
  cases c : rightT t with
  | true =>
    rw [c] at hr
    obtain ⟨_, q1, q2, q3, q4⟩ := rightT_iff.1 c
    by_cases h0 : t.lists = 0
    · have e0 : (t.lists == 0) = true := by simp [h0]
      rw [if_neg (fun h => h.2 h0)]
      refine .gob ?_
      exact FinR.r0
    · have e0 : (t.lists == 0) = false := by simp [h0]
      rw [if_pos ⟨rfl, h0⟩]
      repeat' first | refine .br ?_ | refine .s1 ?_ | (refine .q ?_ ?_ <;> intro hc) | refine A.shr rfl rfl (by decide) shr_one ?_ | fail
      exact FinR.r0
  | false =>
    rw [c] at hr
    rw [if_neg (fun h => by cases h.1)]
    refine .gob ?_
    exact FinR.r0
theorem Dfn.size_pos (d : Dfn) : 1 ≤ d.size := by unfold Dfn.size; omega
theorem Par.size_pos (d : Par) : 1 ≤ d.size := by unfold Par.size; omega
theorem Fld.size_pos (d : Fld) : 1 ≤ d.size := by unfold Fld.size; omega
theorem Dirc.size_pos (d : Dirc) : 1 ≤ d.size := by unfold Dirc.size; omega
theorem Sch.len (s : Sch) : s.defs.length ≤ s.size := by
  have := sumSize_length Dfn.size_pos s.defs
  unfold Sch.size; omega
theorem Sch.dfn {s : Sch} {d : Dfn} (h : d ∈ s.defs) : d.size ≤ s.size := by
  have := sumSize_mem (size := Dfn.size) h
  unfold Sch.size; omega
theorem Dfn.lens (d : Dfn) : d.params.length ≤ d.size ∧ d.parts.length ≤ d.size ∧ d.faces.length ≤ d.size ∧ d.fields.length ≤ d.size ∧ d.name.length ≤ d.size := by
  have h1 := sumSize_length Par.size_pos d.params
  have h2 := sumSize_length Fld.size_pos d.fields
  have h3 := sumSize_length (size := fun x : Str => x.length + 1) (fun _ => by omega) d.parts
  have h4 := sumSize_length (size := fun x : Str => x.length + 1) (fun _ => by omega) d.faces
  unfold Dfn.size strsSize; omega
theorem Dfn.par {d : Dfn} {p : Par} (h : p ∈ d.params) : p.size ≤ d.size := by
  have := sumSize_mem (size := Par.size) h
  unfold Dfn.size; omega
theorem Par.lens (p : Par) : p.name.length ≤ p.size ∧ p.t.name.length ≤ p.size ∧ p.d.size ≤ p.size := by
  unfold Par.size Typ.size; omega
theorem dScalar (n : Str) : PFn Tryz.prog 133 [.str n] (.bool (scalarB n)) := by
  refine AFn.plain rfl rfl (AFn.en [2] Tryz.func133 ?_)
  repeat' first | refine .s1 ?_ | (refine .q ?_ ?_ <;> intro hc) | fail
  all_goals
    refine Fin.rb ?_
    unfold scalarB sInt sString sBoolean sID
    simp_all
theorem weak_dfn {k : Int} {n : Str} {t1 t2 t3 t4 : Tk} : Weak (.agg [.int .i64 k, .str n, .slice [] t1, .slice [] t2, .slice [] t3, .slice [] t4]) (Dfn.enc ⟨k, n, [], [], [], []⟩) :=
  Weak.agg (WeakL.cons (Weak.refl _) (WeakL.cons (Weak.refl _) (WeakL.cons (Weak.no (WeakL.refl _)) (WeakL.cons (Weak.no (WeakL.refl _)) (WeakL.cons (Weak.no (WeakL.refl _)) (WeakL.cons (Weak.no (WeakL.refl _)) (WeakL.refl _)))))))
theorem find_drop {α : Type} {p : α → Bool} {l : List α} {k : Nat} (h : k < l.length) : (l.drop k).find? p = if p l[k] = true then some l[k] else (l.drop (k + 1)).find? p := by
  rw [List.drop_eq_getElem_cons h, List.find?_cons]
  cases p l[k] <;> rfl
theorem dFind (s : Sch) (name : Str) (hs : s.size ≤ 68719476736) : PFn Tryz.prog 102 [s.enc, .str name] (.tup [(findR s name).1.enc, .bool (findR s name).2]) := by
  have hsc := dScalar name
  have hl := s.len
  refine AFn.plain (by simp [AV.closed, AV.closedL, Dfn.closed]) (by simp [AV.closed, AV.closedL, Sch.closed]) (AFn.eR [.cell 4 49, .tmp 5] Tryz.func102 ?_)
  cases c : scalarB name with
  | true =>
    rw [c] at hsc
    refine .gob ?_
    refine FinR.ret1 rfl ?_
    rw [findR, findO, if_pos c]
    exact Weak.tup (WeakL.cons weak_dfn (WeakL.refl _))
  | false =>
    rw [c] at hsc
    refine .gob ?_
    refine HCode.forK s.defs.length (fun k => [(15, .int .i64 k), (14, .int .i64 s.defs.length), (13, .slice (s.defs.map Dfn.enc) .no), (1, .str name), (4, .ptr 0 0)])
      (fun _ => ⟨[.cells [.int .i64 0, .str [], .slice [] .nil, .slice [] .nil, .slice [] .nil, .slice [] .nil]], []⟩) (fun k => findO s name = (s.defs.drop k).find? (fun d => d.name == name))
      ⟨rfl, rfl, rfl, rfl, rfl, trivial⟩ rfl (by rw [findO, if_neg (by rw [c]; decide)]; rfl) fun k hk hp => ?_
    by_cases h1 : k < s.defs.length
    · have d1 : decide ((k : Int) < (s.defs.length : Int)) = true := by simp [h1]
      have x1 := map_get' (f := Dfn.enc) h1
      have hd := find_drop (p := fun d : Dfn => d.name == name) h1
      repeat' first | refine .lb ?_ | refine .s1 ?_ | (refine .q ?_ ?_ <;> intro hc) | fail
      · refine FinR.ret1 rfl (Weak.eq ?_)
        rw [findR, hp, hd, if_pos hc]; rfl
      · exact ⟨h1, ⟨rfl, rfl, rfl, rfl, rfl, trivial⟩, by simp [belowS, AV.low], rfl, rfl, by rw [hp, hd, if_neg (by simp [hc])]⟩
    · have d1 : decide ((k : Int) < (s.defs.length : Int)) = false := by simp; omega
      refine .go ?_
      refine FinR.ret1 rfl ?_
      rw [findR, hp, List.drop_eq_nil_of_le (by omega)]
      exact Weak.tup (WeakL.cons weak_dfn (WeakL.refl _))
theorem findR_in (s : Sch) (name : Str) : (findR s name).1 ∈ s.defs ∨ (findR s name).1 = ⟨0, name, [], [], [], []⟩ ∨ (findR s name).1 = zeroD := by
  unfold findR findO
  split
  · rename_i d hd
    split at hd
    · cases hd; exact .inr (.inl rfl)
    · exact .inl (List.mem_of_find?_eq_some hd)
  · exact .inr (.inr rfl)
theorem findR_size {s : Sch} {name : Str} (h : s.size ≤ 68719476736) : (findR s name).1.params.length ≤ 68719476736 ∧ (findR s name).1.parts.length ≤ 68719476736 ∧ (findR s name).1.faces.length ≤ 68719476736 ∧ (findR s name).1.fields.length ≤ 68719476736 ∧ ∀ p ∈ (findR s name).1.params, p.size ≤ 68719476736 := by
  rcases findR_in s name with h1 | h1 | h1
  · have h2 := Sch.dfn h1
    have h3 := Dfn.lens (findR s name).1
    exact ⟨by omega, by omega, by omega, by omega, fun p hp => by have := Dfn.par hp; omega⟩
  · rw [h1]; exact ⟨by simp, by simp, by simp, by simp, by simp⟩
  · rw [h1]; exact ⟨by simp [zeroD], by simp [zeroD], by simp [zeroD], by simp [zeroD], by simp [zeroD]⟩
theorem dKind (s : Sch) (name : Str) (ks : List Int) (hs : s.size ≤ 68719476736) (hk : ks.length ≤ 68719476736) : PFn Tryz.prog 104 [s.enc, .str name, .slice (ks.map (AV.int .i64)) .no] (.bool (kindB s name ks)) := by
  have hf := dFind s name hs
  have hc := sContainsInt ks (findR s name).1.kind (by omega)
  refine AFn.plain rfl (by simp [AV.closed, AV.closedL, Sch.closed, int_closedL]) (AFn.en [6] Tryz.func104 ?_)
  unfold kindB
  repeat' first | refine .br ?_ | refine .s1 ?_ | (refine .q ?_ ?_ <;> intro hc) | fail
  all_goals
    refine Fin.rb ?_
    simp_all
theorem dLeaf (s : Sch) (name : Str) (hs : s.size ≤ 68719476736) : PFn Tryz.prog 148 [s.enc, .str name] (.bool (leafB s name)) := by
  have hk := dKind s name [0, 4] hs (by decide)
  refine AFn.plain rfl (by simp [AV.closed, AV.closedL, Sch.closed]) (AFn.en [4] Tryz.func148 ?_)
  refine .gob ?_
  exact Fin.r0
theorem dComposite (s : Sch) (name : Str) (hs : s.size ≤ 68719476736) : PFn Tryz.prog 117 [s.enc, .str name] (.bool (compB s name)) := by
  have hk := dKind s name [1, 2, 3] hs (by decide)
  refine AFn.plain rfl (by simp [AV.closed, AV.closedL, Sch.closed]) (AFn.en [4] Tryz.func117 ?_)
  refine .gob ?_
  exact Fin.r0
theorem weak_zeroP {t1 t2 : Tk} : Weak (.agg [.str [], .str [], .int .i64 0, .int .i64 0, .bool false, .int .i64 0, .int .i64 0, .str [], .slice [] t1, .slice [] t2]) zeroP.enc := by
  unfold Par.enc zeroP
  rw [show (val0).lv = [] by rw [val0, lv_mk], show (val0).mv = [] by rw [val0, mv_mk]]
  exact Weak.agg (WeakL.cons (Weak.refl _) (WeakL.cons (Weak.refl _) (WeakL.cons (Weak.refl _) (WeakL.cons (Weak.refl _) (WeakL.cons (Weak.refl _) (WeakL.cons (Weak.refl _) (WeakL.cons (Weak.refl _) (WeakL.cons (Weak.refl _) (WeakL.cons (Weak.no (WeakL.refl _)) (WeakL.cons (Weak.no (WeakL.refl _)) (WeakL.refl _)))))))))))
theorem lParam1 (p : Par) (name : Str) : PFn Tryz.prog 199 [p.enc, .rptr (.str name)] (.bool (p.name == name)) := by
  refine AFn.plain rfl (by simp [AV.closed, AV.closedL, Par.closed]) (AFn.en [3] Tryz.func199 ?_)
  refine .gob ?_
  exact Fin.r0
theorem lParam (l : List Par) (name : Str) (hl : l.length ≤ 9223372036854775807) : PFn Tryz.prog 176 [.slice (l.map Par.enc) .no, .str name] (.tup [(parR l name).1.enc, .bool (parR l name).2]) := by
  have h := sIndexFPar l 199 [.rptr (.str name)] (fun p => p.name == name) hl rfl (fun x _ => lParam1 x name)
  refine AFn.plain (by simp [AV.closed, AV.closedL, Par.closed]) (by simp [AV.closed, AV.closedL, Par.closedL]) (AFn.eR [.cell 4 81, .tmp 5] Tryz.func176 ?_)
  rcases idxFrom_spec (fun p : Par => p.name == name) l 0 with ⟨h1, h2⟩ | ⟨j, hj, h1, h2⟩
  · rw [h1] at h
    refine .gob ?_
    refine FinR.ret1 rfl ?_
    rw [parR, parO, h2]
    exact Weak.tup (WeakL.cons weak_zeroP (WeakL.refl _))
  · rw [h1] at h
    have d1 : decide (((0 + j : Nat) : Int) < 0) = false := decide_eq_false (by omega)
    have x1 : (l.map Par.enc)[0 + j]? = some l[j].enc := by rw [Nat.zero_add]; exact map_get' (f := Par.enc) hj
    refine .gob ?_
    refine FinR.ret1 rfl (Weak.eq ?_)
    rw [parR, parO, h2]; rfl
theorem getG_snd (name : Str) : ∀ l : List Mem, (getG name l).2 = l.any fun x => x.name == name
  | [] => rfl
  | m :: l => by
    rw [getG, List.any_cons]
    cases m.name == name with
    | true => rfl
    | false => rw [if_neg (by decide), getG_snd name l]; rfl
theorem needsB_drop {m : List Mem} {ps : List Par} {k : Nat} (h : k < ps.length) : needsB m (ps.drop k) = (((m.any fun x => x.name == ps[k].name) || !reqB ps[k]) && needsB m (ps.drop (k + 1))) := by
  rw [List.drop_eq_getElem_cons h, needsB]
theorem sizeL_take (l : List Val) (k : Nat) : Val.sizeL (l.take k) ≤ Val.sizeL l := by
  induction l generalizing k with
  | nil => simp
  | cons x l ih =>
    cases k with
    | zero => simp [Val.sizeL]
    | succ k => simp only [List.take_succ_cons, Val.sizeL]; have := ih k; omega
theorem sizeM_take (l : List Mem) (k : Nat) : Val.sizeM (l.take k) ≤ Val.sizeM l := by
  induction l generalizing k with
  | nil => simp
  | cons x l ih =>
    cases k with
    | zero => simp [Val.sizeM]
    | succ k => cases x; simp only [List.take_succ_cons, Val.sizeM]; have := ih k; omega
theorem Val.size_parts (v : Val) : Val.sizeL v.l ≤ v.size ∧ Val.sizeM v.m ≤ v.size := by
  cases v; rw [Val.size]; simp only [Val.l, Val.m]; omega
end Go.Proofs.YtmfmdehfbpkgdaaGreatDoor
namespace Go.Av
open Go
section
variable [Globals]
variable {P : Program} {all : Array Oper} {draw : Bool} {K : AX → Slots → St → Prop} {rest : List Oper} {acc : List Tag} {s : Slots} {σ : St} {d : Option Tmp} {ty : TypeId} {pos : String} {af : Array Edge}
theorem A.callG {f : FuncId} {args : Array Operand} {tys : Array TypeId} {xs ys cls cls' : List AV} {z n n' : Nat} {T' : List Tok} (j : Nat) (ha : evsK s args.toList some = some (.slice xs (.own j z) :: cls))
    (hp : AFn P f (.slice xs (.own 0 z) :: cls') ⟨[], [.len n]⟩ (fun e σ1 => e = .ret (.slice ys (.own 0 z)) ∧ σ1 = ⟨[], [.len n']⟩)) (hj : σ.T[j]? = some (.len n)) (hx : AV.closedL xs = true) (hy : AV.closedL ys = true) (hc : AV.closedL cls' = true) (hw : WeakL cls cls')
    (hT' : setTK j (.len n') σ.T some = some T') (k : AOps P all draw K rest (.all :: acc) (putS d (.slice ys (.own j z)) s) ⟨σ.B, T'⟩) : AOps P all draw K (⟨d, .call ⟨.value (.func f), args, tys⟩, ty, pos, af, none⟩ :: rest) acc s σ := by
  have hjl : j < σ.T.length := (List.getElem?_eq_some_iff.1 hj).1
  have hemb : emb σ.T.length [j] 0 = j := rfl
  refine A.callR (nB := σ.B.length) (nT := σ.T.length) (B0 := []) (T0 := [.len n]) (B1 := []) (T1 := [.len n']) (v0 := .slice ys (.own 0 z)) [] [j] ha hp rfl rfl ⟨List.nodup_nil, by simp⟩ ⟨by simp, by simpa using hjl⟩ rfl rfl (fun k i ob h => by simp at h) (fun k i t h ht => ?_) rfl rfl
    ?_ ?_ ?_ (B' := σ.B) (T' := T') ?_ ?_ k
  · cases k with
    | zero => simp at h ht; subst h; subst ht; exact hj
    | succ k => simp at h
  · simp only [AV.lowL, AV.low, AV.lowL_of_closed _ _ _ hx, AV.lowL_of_closed _ _ _ hc]; rfl
  · rw [AV.renL, AV.ren, AV.renL_closed _ _ _ hx, AV.renL_closed _ _ _ hc]
    exact WeakL.cons (Weak.refl _) hw
  · rw [AV.ren, AV.renL_closed _ _ _ hy]; rfl
  · rw [merge_nil]; simp
  · obtain ⟨_, hTe⟩ := setTK_spec _ _ _ _ _ hT'
    rw [← Option.some.inj hTe]
    simp [merge, upd, Tok.ren]
end
end Go.Av
namespace Go.Proofs.YtmfmdehfbpkgdaaGreatDoor
open Go Go.Av
attribute [local irreducible] HCode AOps PFn AFn Av.Step TStep
theorem varsV_eq (v : Val) (acc : List Str) : varsV v acc = if v.kind = 8 then addNew acc v.s else if v.kind = 6 then varsL v.l acc else if v.kind = 7 then varsM v.m acc else acc := by
  cases v; rw [varsV]; rfl
theorem addNew_len (acc : List Str) (x : Str) : (addNew acc x).length ≤ acc.length + 1 := by
  unfold addNew; split <;> simp
mutual
theorem varsV_len : ∀ (v : Val) (acc : List Str), (varsV v acc).length ≤ acc.length + v.size
  | .mk k n str l m, acc => by
    have h1 := varsL_len l acc
    have h2 := varsM_len m acc
    have h3 := addNew_len acc str
    rw [varsV, Val.size]
    split
    · omega
    · split
      · omega
      · split <;> omega
theorem varsL_len : ∀ (l : List Val) (acc : List Str), (varsL l acc).length ≤ acc.length + Val.sizeL l
  | [], acc => by rw [varsL]; omega
  | v :: l, acc => by
    have h1 := varsV_len v acc
    have h2 := varsL_len l (varsV v acc)
    rw [varsL, Val.sizeL]; omega
theorem varsM_len : ∀ (m : List Mem) (acc : List Str), (varsM m acc).length ≤ acc.length + Val.sizeM m
  | [], acc => by rw [varsM]; omega
  | .mk _ v :: m, acc => by
    have h1 := varsV_len v acc
    have h2 := varsM_len m (varsV v acc)
    rw [varsM, Val.sizeM]; omega
end
theorem varsL_app : ∀ (a b : List Val) (acc : List Str), varsL (a ++ b) acc = varsL b (varsL a acc)
  | [], b, acc => by rw [varsL]; rfl
  | x :: a, b, acc => by rw [List.cons_append, varsL, varsL, varsL_app a b]
theorem varsM_app : ∀ (a b : List Mem) (acc : List Str), varsM (a ++ b) acc = varsM b (varsM a acc)
  | [], b, acc => by rw [varsM]; rfl
  | .mk _ _ :: a, b, acc => by rw [List.cons_append, varsM, varsM, varsM_app a b]
theorem varsL_take {l : List Val} {k : Nat} {acc : List Str} (h : k < l.length) : varsL (l.take (k + 1)) acc = varsV l[k] (varsL (l.take k) acc) := by
  rw [List.take_succ_eq_append_getElem h, varsL_app, varsL, varsL]
theorem varsM_take {l : List Mem} {k : Nat} {acc : List Str} (h : k < l.length) : varsM (l.take (k + 1)) acc = varsV l[k].v (varsM (l.take k) acc) := by
  rw [List.take_succ_eq_append_getElem h, varsM_app]
  cases l[k]; rw [varsM, varsM]; rfl
theorem sizeL_succ {l : List Val} {k : Nat} (h : k < l.length) : Val.sizeL (l.take (k + 1)) = Val.sizeL (l.take k) + l[k].size := by
  rw [Val.sizeL_eq, Val.sizeL_eq]
  induction l generalizing k with
  | nil => simp at h
  | cons x l ih =>
    cases k with
    | zero => simp [sumSize]
    | succ k => simp only [List.take_succ_cons, sumSize, List.getElem_cons_succ]; rw [ih (by simpa using h)]; omega
theorem sizeM_succ {l : List Mem} {k : Nat} (h : k < l.length) : Val.sizeM (l.take (k + 1)) = Val.sizeM (l.take k) + l[k].name.length + 2 + l[k].v.size := by
  induction l generalizing k with
  | nil => simp at h
  | cons x l ih =>
    cases k with
    | zero => cases x; simp [Val.sizeM, Mem.name, Mem.v]
    | succ k => cases x; simp only [List.take_succ_cons, Val.sizeM, List.getElem_cons_succ]; rw [ih (by simpa using h)]; omega
end Go.Proofs.YtmfmdehfbpkgdaaGreatDoor
namespace Go.Proofs.YtmfmdehfbpkgdaaGreatDoor
open Go Go.Av
mutual
def depV : Val → Nat
  | .mk k _ _ l m => if k = 6 then depL l + 1 else if k = 7 then depM m + 1 else 0
def depL : List Val → Nat
  | [] => 0
  | v :: l => max (depV v) (depL l)
def depM : List Mem → Nat
  | [] => 0
  | .mk _ v :: m => max (depV v) (depM m)
end
theorem depV_eq (v : Val) : depV v = if v.kind = 6 then depL v.l + 1 else if v.kind = 7 then depM v.m + 1 else 0 := by cases v; rw [depV]; rfl
mutual
theorem depV_le : ∀ v : Val, depV v < v.size
  | .mk k n s l m => by
    have h1 := depL_le l
    have h2 := depM_le m
    rw [depV, Val.size]
    split
    · omega
    · split <;> omega
theorem depL_le : ∀ l : List Val, depL l ≤ Val.sizeL l
  | [] => by rw [depL]; omega
  | v :: l => by
    have h1 := depV_le v
    have h2 := depL_le l
    rw [depL, Val.sizeL]; omega
theorem depM_le : ∀ m : List Mem, depM m ≤ Val.sizeM m
  | [] => by rw [depM]; omega
  | .mk n v :: m => by
    have h1 := depV_le v
    have h2 := depM_le m
    rw [depM, Val.sizeM]; omega
end
theorem depL_app : ∀ a b : List Val, depL (a ++ b) = max (depL a) (depL b)
  | [], b => by rw [List.nil_append, depL]; omega
  | v :: a, b => by rw [List.cons_append, depL, depL, depL_app a b]; omega
theorem depM_app : ∀ a b : List Mem, depM (a ++ b) = max (depM a) (depM b)
  | [], b => by rw [List.nil_append, depM]; omega
  | .mk n v :: a, b => by rw [List.cons_append, depM, depM, depM_app a b]; omega
theorem depL_take {l : List Val} {k : Nat} (h : k < l.length) : depL (l.take (k + 1)) = max (depL (l.take k)) (depV l[k]) := by
  rw [List.take_succ_eq_append_getElem h, depL_app, depL, depL]; omega
theorem depM_take {l : List Mem} {k : Nat} (h : k < l.length) : depM (l.take (k + 1)) = max (depM (l.take k)) (depV l[k].v) := by
  rw [List.take_succ_eq_append_getElem h, depM_app]
  congr 1
  cases hx : l[k]; rw [depM, depM]
  exact Nat.max_zero _
def plainV (v : Val) : Bool := allV nameB v && decide (depV v ≤ 16)
def valFix (v : Val) : Bool := plainV v && decide (varsV v [] = [])
def dfltOk (p : Par) : Bool := if p.has = true then valFix p.d else sameV p.d val0
def parOk (p : Par) : Bool := nameB p.name && (rightT p.t && dfltOk p)
def argsOk (m : List Mem) : Bool := m.all fun x => nameB x.name && valFix x.v
def dirOk (d : Dirc) : Bool := nameB d.name && argsOk d.args
def fldOk (f : Fld) : Bool := nameB f.name && (f.params.all parOk && (rightT f.t && f.dirs.all dirOk))
def sTrue : Str := [116, 114, 117, 101]
def sFalse : Str := [102, 97, 108, 115, 101]
def sNull : Str := [110, 117, 108, 108]
def partOk (s : Str) : Bool := (s != sTrue && (s != sFalse && s != sNull)) && nameB s
def dfnOk (d : Dfn) : Bool :=
  if d.kind = 1 ∨ d.kind = 2 then (decide (d.fields ≠ []) && decide (d.parts = [] ∧ d.params = [])) && (nameB d.name && (d.faces.all nameB && d.fields.all fldOk))
  else if d.kind = 3 then (decide (d.parts ≠ []) && decide (d.faces = [] ∧ d.fields = [] ∧ d.params = [])) && (nameB d.name && d.parts.all nameB)
  else if d.kind = 4 then (decide (d.parts ≠ []) && decide (d.faces = [] ∧ d.fields = [] ∧ d.params = [])) && (nameB d.name && d.parts.all partOk)
  else if d.kind = 5 then (decide (d.params ≠ []) && decide (d.faces = [] ∧ d.fields = [] ∧ d.parts = [])) && (nameB d.name && d.params.all parOk)
  else false
def sdlOk (s : Sch) : Bool := nameB s.query && ((s.mutation == [] || nameB s.mutation) && s.defs.all dfnOk)
def own2 (n : Str) : Bool := n.take 2 == [95, 95]
def onceB (l : List Str) : Bool := decide l.Nodup
def foreignB (l : List Str) : Bool := !l.any own2
def goodNames (l : List Str) : Bool := onceB l && foreignB l
def everyB (s : Sch) (f : Dfn → Bool) : Bool := !s.defs.any fun d => !f d
def dNames (s : Sch) : List Str := s.defs.map Dfn.name
def namedB (s : Sch) : Bool := sdlOk s && (onceB (dNames s) && (foreignB (dNames s) && !(dNames s).any fun n => kindB s n [0]))
def rootsB (s : Sch) : Bool := kindB s s.query [1] && (s.mutation == [] || (s.mutation != s.query && kindB s s.mutation [1]))
def sole1 (d : Dfn) : Bool := goodNames (d.fields.map Fld.name) && (goodNames (d.params.map Par.name) && (onceB d.parts && (onceB d.faces && !d.fields.any fun f => !goodNames (f.params.map Par.name))))
def soleB (s : Sch) : Bool := everyB s sole1
def entriesB (s : Sch) (l : List Par) : Bool := !l.any fun p => !entryB s p.t.name
def typed1 (s : Sch) (d : Dfn) : Bool := entriesB s d.params && !d.fields.any fun f => ((!leafB s f.t.name && !compB s f.t.name) || !entriesB s f.params)
def typedB (s : Sch) : Bool := everyB s (typed1 s)
def face2 (s : Sch) (d : Dfn) (n : Str) : Bool := !(findR s n).2 || ((findR s n).1.kind != 2 || (n == d.name || (findR s n).1.faces.any fun m => !decide (m ∈ d.faces)))
def faces1 (s : Sch) (d : Dfn) : Bool := !d.faces.any (face2 s d)
def facesB (s : Sch) : Bool := everyB s (faces1 s)
def possF (l : List Str) (d : Dfn) (name : Str) : List Str := if d.kind = 1 ∧ name ∈ d.faces then addNew l d.name else l
def possU (s : Sch) (l : List Str) (p : Str) : List Str := if kindB s p [1] = true then addNew l p else l
def possB (s : Sch) (name : Str) : List Str :=
  match findO s name with
  | none => []
  | some d => if d.kind = 1 then [name] else if d.kind = 2 then s.defs.foldl (fun l x => possF l x name) [] else if d.kind = 3 then d.parts.foldl (possU s) [] else []
def andNotI (m n : Int) : Int := IntKind.i64.wrap (((BitVec.ofInt IntKind.i64.bits m) &&& ~~~(BitVec.ofInt IntKind.i64.bits n)).toNat : Int)
def subT (a b : Typ) : Bool := rightT a && (rightT b && (a.name == b.name && (a.lists == b.lists && andNotI b.musts a.musts == 0)))
def subB (s : Sch) (a b : Typ) : Bool :=
  (rightT a && subT ⟨b.name, a.lists, a.musts⟩ b) && (a.name == b.name || ((findR s a.name).2 &&
    (((findR s a.name).1.kind == 1 && decide (a.name ∈ possB s b.name)) || ((findR s a.name).1.kind == 2 && (kindB s b.name [2] && decide (b.name ∈ (findR s a.name).1.faces))))))
def fldO (l : List Fld) (name : Str) : Option Fld := l.find? (fun f => f.name == name)
def takesB (f g : Fld) : Bool :=
  (g.params.all fun p => match parO f.params p.name with | none => false | some q => decide (q.t = p.t)) && (f.params.all fun q => !((parO g.params q.name).isNone && reqB q))
def hasB (s : Sch) (d : Dfn) (face : Str) : Bool := (findR s face).1.fields.all fun g => match fldO d.fields g.name with | none => false | some f => subB s f.t g.t && takesB f g
def kept1 (s : Sch) (d : Dfn) : Bool := !d.faces.any fun n => !hasB s d n
def keptB (s : Sch) : Bool := everyB s (kept1 s)
def parts1 (s : Sch) (d : Dfn) : Bool := d.kind != 3 || !d.parts.any fun n => !kindB s n [1]
def partsB (s : Sch) : Bool := everyB s (parts1 s)
def needP (s : Sch) (p : Par) : Bool := decide (p.t.lists = 0) && (isT p.t && kindB s p.t.name [5])
def needAdd (s : Sch) (l : List Str) (p : Par) : List Str := if needP s p = true then addNew l p.t.name else l
def needsP (s : Sch) (name : Str) : List Str := (findR s name).1.params.foldl (needAdd s) []
def closeF (next : Str → List Str) : Nat → Nat → List Str → List Str
  | 0, _, l => l
  | n + 1, i, l => match l[i]? with
    | none => l
    | some x => closeF next n (i + 1) ((next x).foldl addNew l)
def allTs (s : Sch) : List Str := s.defs.flatMap fun d => d.params.map fun p => p.t.name
def ringsB (s : Sch) (name : Str) : Bool := decide (name ∈ closeF (needsP s) (allTs s).length 0 (needsP s name))
def open1 (s : Sch) (d : Dfn) : Bool := d.kind != 5 || !ringsB s d.name
def openB (s : Sch) : Bool := everyB s (open1 s)
def rightB (s : Sch) (l : List Par) : Bool := !l.any fun p => p.has && !litR s p.t p.d
def dflts1 (s : Sch) (d : Dfn) : Bool := rightB s d.params && (!(d.params.any fun p => p.has && !leafB s p.t.name) && !d.fields.any fun f => !rightB s f.params)
def dfltsB (s : Sch) : Bool := everyB s (dflts1 s)
def ruleB (s : Sch) (n : Int) : Bool :=
  if n = 1 then namedB s else if n = 2 then rootsB s else if n = 3 then soleB s else if n = 4 then typedB s else if n = 5 then facesB s else if n = 6 then keptB s else if n = 7 then partsB s else if n = 8 then openB s else if n = 9 then dfltsB s else false
def checkF (s : Sch) : Nat → Int → Int
  | 0, _ => 0
  | k + 1, n => if ruleB s n = true then checkF s k (n + 1) else n
def checkI (s : Sch) : Int := checkF s 9 1
def sIf : Str := [105, 102]
def sSkip : Str := [115, 107, 105, 112]
def sInclude : Str := [105, 110, 99, 108, 117, 100, 101]
def yesB (env : List Mem) (d : Dirc) : Bool :=
  let v := (getG sIf d.args).1
  let w := if v.kind = 8 then (getG v.s env).1 else v
  w.kind == 1 && w.n == 1
def firstD (name : Str) (l : List Dirc) : Option Dirc := l.find? fun d => d.name == name
def holdsB (env : List Mem) (l : List Dirc) : Bool :=
  !(match firstD sSkip l with | some d => yesB env d | none => false) && (match firstD sInclude l with | some d => yesB env d | none => true)
def applB (s : Sch) (typ on : Str) : Bool := on == [] || (on == typ || decide (typ ∈ possB s on))
def keyS (x : Sl) : Str := if x.kind ≠ 0 then [] else if x.alias ≠ [] then x.alias else x.name
def fragO (d : Dcm) (name : Str) : Option Frg := d.frags.find? fun f => f.name == name
structure Gs where
  met : List Str
  out : List Grp
def addK (x : Sl) : List Grp → List Grp
  | [] => [⟨keyS x, [x]⟩]
  | g :: l => if g.key = keyS x then ⟨g.key, g.sels ++ [x]⟩ :: l else g :: addK x l
def thruM (s : Sch) (d : Dcm) (env : List Mem) (typ : Str) : Nat → List Sl → Gs → Gs
  | _, [], g => g
  | n, .mk k a nm ar di on se :: l, g =>
    let x := Sl.mk k a nm ar di on se
    thruM s d env typ n l (
      if holdsB env di = false then g
      else if k = 0 then ⟨g.met, addK x g.out⟩
      else if k = 1 then
        (if nm ∈ g.met then g else match fragO d nm with
          | none => ⟨g.met ++ [nm], g.out⟩
          | some f => if applB s typ f.on = true then (match n with
              | 0 => ⟨g.met ++ [nm], g.out⟩
              | n + 1 => thruM s d env typ n f.sels ⟨g.met ++ [nm], g.out⟩) else ⟨g.met ++ [nm], g.out⟩)
      else if k = 2 then (if applB s typ on = true then thruM s d env typ n se g else g)
      else g)
termination_by n l => (n, Sl.sizeL l)
decreasing_by
  all_goals simp_wf
  all_goals simp only [Sl.sizeL, Sl.size]
  all_goals first | exact Prod.Lex.left _ _ (Nat.lt_succ_self _) | (apply Prod.Lex.right; omega)
def stepM (s : Sch) (d : Dcm) (env : List Mem) (typ : Str) (n : Nat) (x : Sl) (g : Gs) : Gs :=
  if holdsB env x.dirs = false then g
  else if x.kind = 0 then ⟨g.met, addK x g.out⟩
  else if x.kind = 1 then
    (if x.name ∈ g.met then g else match fragO d x.name with
      | none => ⟨g.met ++ [x.name], g.out⟩
      | some f => if applB s typ f.on = true then (match n with
          | 0 => ⟨g.met ++ [x.name], g.out⟩
          | n + 1 => thruM s d env typ n f.sels ⟨g.met ++ [x.name], g.out⟩) else ⟨g.met ++ [x.name], g.out⟩)
  else if x.kind = 2 then (if applB s typ x.on = true then thruM s d env typ n x.sels g else g)
  else g
theorem thruM_nil (s : Sch) (d : Dcm) (env : List Mem) (typ : Str) (n : Nat) (g : Gs) : thruM s d env typ n [] g = g := by rw [thruM]
theorem thruM_cons (s : Sch) (d : Dcm) (env : List Mem) (typ : Str) (n : Nat) (x : Sl) (l : List Sl) (g : Gs) : thruM s d env typ n (x :: l) g = thruM s d env typ n l (stepM s d env typ n x g) := by
  cases x
  rw [thruM]
  rfl
def groupsM (s : Sch) (d : Dcm) (env : List Mem) (typ : Str) (l : List Sl) : List Grp := (thruM s d env typ d.frags.length l ⟨[], []⟩).out
def belowM' (l : List Sl) : List Sl := l.flatMap Sl.sels
theorem tab_is {w : World} {im : Nat → Nat → Prop} (hgl : GlobOk im w) : Lib.TabIs Tryz.prog w "internal/strconv.uint64pow10" .u64 Lib.pow10Tab := by
  have h0 := GlobOk.rep (g := ⟨[], [], im⟩) hgl (p := (2, .agg (Lib.pow10Tab.map (AV.int .u64)))) (.tail _ (.tail _ (.head _)))
  have hn := (hgl.2 (2, 20) (.head _)).2
  have hc := fun i z hz => tab_cells h0 i z hz
  unfold Lib.TabIs World.var?
  rw [show Tryz.prog.globalNamed "internal/strconv.uint64pow10" = some 2 by kernel_rfl, Option.bind_some]
  have c0 := hc 0 1 (by decide)
  unfold World.cell? at c0 hn hc
  dsimp only at c0 hn hc
  split at c0
  case h_2 => cases c0
  case h_1 cs e fz hh =>
    rw [hh] at hn hc
    simp only [Option.isSome_none, Bool.false_eq_true, if_false] at hn hc
    rw [hh]
    refine congrArg some (Array.ext_getElem? fun i => ?_)
    simp only [List.getElem?_toArray, List.getElem?_map, Array.getElem?_toList]
    by_cases hi : i < 20
    · have hl : i < Lib.pow10Tab.length := by rw [Lib.pow10Tab_length]; exact hi
      rw [hc i Lib.pow10Tab[i] (List.getElem?_eq_getElem hl), List.getElem?_eq_getElem hl]; rfl
    · rw [List.getElem?_eq_none (by rw [Lib.pow10Tab_length]; omega), Array.getElem?_eq_none (by have := Array.getElem?_eq_none_iff.1 hn; omega)]; rfl
theorem formatInt (n : Int) (h0 : -9223372036854775808 ≤ n) (h1 : n ≤ 9223372036854775807) : PFn Tryz.prog 150 [.int .i64 n, .int .i64 10] (.str (Lib.itoa n)) := by
  refine PFn.ofBelow ⟨_, Tryz.func150, rfl, rfl⟩ rfl (fun im w vals him hgl hl => ?_)
  obtain ⟨v, rest, e, hv, v2, rest2, e2, hv2, hr⟩ := hl
  have hv' : v = .int .i64 n := hv
  have hv2' : v2 = .int .i64 10 := hv2
  have hr' : rest2 = [] := hr
  subst hv'; subst e2; subst hv2'; subst hr'
  obtain rfl : vals = #[.int .i64 n, .int .i64 10] := by cases vals; simp_all
  refine (Tryz.strconv_FormatInt_10 n h0 h1 w (tab_is hgl)).mono ?_
  rintro e w' ⟨rfl, k, os, rfl⟩
  exact ⟨⟨_, rfl, rfl⟩, Lib.below_grow _ w (Nat.le_refl _) k os⟩
end Go.Proofs.YtmfmdehfbpkgdaaGreatDoor
