/-
  Contracts and plain facts for a law, joined.
-/
import Derived.Test.YtgghkkeejagfkaaGreatDoorGSBC1
import Derived.Test.YtgghkkeejagfkaaGreatDoorGSBC2
import Derived.Test.YtgghkkeejagfkaaGreatDoorAvMap
set_option maxRecDepth 100000
set_option maxHeartbeats 16000000
set_option linter.unusedVariables false
set_option linter.unusedSimpArgs false
set_option linter.unusedSectionVars false
namespace Go.Proofs.YtgghkkeejagfkaaGreatDoor
open Go Go.Av
attribute [local irreducible] HCode AOps PFn AFn Av.Step TStep
theorem sIndexStr (l : List Str) (x : Str) (hl : l.length ≤ 9223372036854775807) : PFn Tryz.prog 182 [.slice (l.map (AV.str)) .no, AV.str x] (.int .i64 (idxFrom (fun y => x == y) l 0)) := by
  refine AFn.plain rfl (by simp [AV.closed, AV.closedL, str_closedL]) (AFn.enter [4] Tryz.func182 rfl rfl rfl rfl rfl (by decide) ?_)
  refine .go ?_
  refine HCode.forK l.length (fun k => [(8, .int .i64 k), (7, .int .i64 l.length), (0, .slice (l.map (AV.str)) .no), (1, AV.str x)]) (fun _ => ⟨[], []⟩) (fun k => idxFrom (fun y => x == y) l 0 = idxFrom (fun y => x == y) (l.drop k) k) ⟨rfl, rfl, rfl, rfl, trivial⟩ rfl rfl fun k hk hp => ?_
  by_cases h1 : k < l.length
  · have d1 : decide ((k : Int) < (l.length : Int)) = true := by simp [h1]
    have x1 := map_get' (f := AV.str) h1
    have hd := idxFrom_drop (p := fun y => x == y) h1
    repeat' first | refine .s1 ?_ | (refine .cond rfl ?_ ?_ <;> intro hc) | (refine A.guard rfl ?_ ?_ <;> intro hc) | fail
    · refine Fin.ret1 rfl (Weak.eq ?_)
      rw [hp, hd, if_pos hc]
    · exact ⟨h1, ⟨rfl, rfl, rfl, rfl, trivial⟩, by simp [belowS, AV.low], rfl, rfl, by rw [hp, hd, if_neg (by simp [hc])]⟩
  · have d1 : decide ((k : Int) < (l.length : Int)) = false := by simp; omega
    refine .go ?_
    refine Fin.ret1 rfl (Weak.eq ?_)
    rw [hp, List.drop_eq_nil_of_le (by omega), idxFrom]
theorem sContainsStr (l : List Str) (x : Str) (hl : l.length ≤ 9223372036854775807) : PFn Tryz.prog 110 [.slice (l.map (AV.str)) .no, AV.str x] (.bool (decide (x ∈ l))) := by
  have h := sIndexStr l x hl
  refine AFn.plain rfl (by simp [AV.closed, AV.closedL, str_closedL]) (AFn.enter [4] Tryz.func110 rfl rfl rfl rfl rfl (by decide) ?_)
  refine .go ?_
  exact Fin.ret1 rfl (Weak.eq (congrArg AV.bool (idx_mem l x)))
theorem sIndexInt (l : List Int) (x : Int) (hl : l.length ≤ 9223372036854775807) : PFn Tryz.prog 225 [.slice (l.map (AV.int .i64)) .no, AV.int .i64 x] (.int .i64 (idxFrom (fun y => x == y) l 0)) := by
  refine AFn.plain rfl (by simp [AV.closed, AV.closedL, int_closedL]) (AFn.enter [4] Tryz.func225 rfl rfl rfl rfl rfl (by decide) ?_)
  refine .go ?_
  refine HCode.forK l.length (fun k => [(8, .int .i64 k), (7, .int .i64 l.length), (0, .slice (l.map (AV.int .i64)) .no), (1, AV.int .i64 x)]) (fun _ => ⟨[], []⟩) (fun k => idxFrom (fun y => x == y) l 0 = idxFrom (fun y => x == y) (l.drop k) k) ⟨rfl, rfl, rfl, rfl, trivial⟩ rfl rfl fun k hk hp => ?_
  by_cases h1 : k < l.length
  · have d1 : decide ((k : Int) < (l.length : Int)) = true := by simp [h1]
    have x1 := map_get' (f := AV.int .i64) h1
    have hd := idxFrom_drop (p := fun y => x == y) h1
    repeat' first | refine .s1 ?_ | (refine .cond rfl ?_ ?_ <;> intro hc) | (refine A.guard rfl ?_ ?_ <;> intro hc) | fail
    · refine Fin.ret1 rfl (Weak.eq ?_)
      rw [hp, hd, if_pos hc]
    · exact ⟨h1, ⟨rfl, rfl, rfl, rfl, trivial⟩, by simp [belowS, AV.low], rfl, rfl, by rw [hp, hd, if_neg (by simp [hc])]⟩
  · have d1 : decide ((k : Int) < (l.length : Int)) = false := by simp; omega
    refine .go ?_
    refine Fin.ret1 rfl (Weak.eq ?_)
    rw [hp, List.drop_eq_nil_of_le (by omega), idxFrom]
theorem sContainsInt (l : List Int) (x : Int) (hl : l.length ≤ 9223372036854775807) : PFn Tryz.prog 177 [.slice (l.map (AV.int .i64)) .no, AV.int .i64 x] (.bool (decide (x ∈ l))) := by
  have h := sIndexInt l x hl
  refine AFn.plain rfl (by simp [AV.closed, AV.closedL, int_closedL]) (AFn.enter [4] Tryz.func177 rfl rfl rfl rfl rfl (by decide) ?_)
  refine .go ?_
  exact Fin.ret1 rfl (Weak.eq (congrArg AV.bool (idx_memI l x)))
theorem sIndexFPar (l : List Par) (f : FuncId) (cs : List AV) (p : Par → Bool) (hl : l.length ≤ 9223372036854775807) (hcl : AV.closedL cs = true) (hf : ∀ x ∈ l, PFn Tryz.prog f (Par.enc x :: cs) (.bool (p x))) :
    PFn Tryz.prog 189 [.slice (l.map Par.enc) .no, .fn (.func f) [] cs] (.int .i64 (idxFrom p l 0)) := by
  refine AFn.plain rfl (by simp [AV.closed, AV.closedL, Par.closedL, hcl]) (AFn.enter [4] Tryz.func189 rfl rfl rfl rfl rfl (by decide) ?_)
  refine .go ?_
  refine HCode.forK l.length (fun k => [(8, .int .i64 k), (7, .int .i64 l.length), (0, .slice (l.map Par.enc) .no), (1, .fn (.func f) [] cs)]) (fun _ => ⟨[], []⟩) (fun k => idxFrom p l 0 = idxFrom p (l.drop k) k) ⟨rfl, rfl, rfl, rfl, trivial⟩ rfl rfl fun k hk hp => ?_
  by_cases h1 : k < l.length
  · have d1 : decide ((k : Int) < (l.length : Int)) = true := by simp [h1]
    have x1 := map_get' (f := Par.enc) h1
    have hcc := hf l[k] (List.getElem_mem h1)
    have hd := idxFrom_drop (p := p) h1
    repeat' first | refine .s1 ?_ | (refine .cond rfl ?_ ?_ <;> intro hc) | (refine A.guard rfl ?_ ?_ <;> intro hc) | fail
    · refine Fin.ret1 rfl (Weak.eq ?_)
      rw [hp, hd, if_pos hc]
    · exact ⟨h1, ⟨rfl, rfl, rfl, rfl, trivial⟩, by simp [belowS, AV.low, AV.lowL, AV.lowL_of_closed _ _ _ hcl], rfl, rfl, by rw [hp, hd, if_neg (by simp [hc])]⟩
  · have d1 : decide ((k : Int) < (l.length : Int)) = false := by simp; omega
    refine .go ?_
    refine Fin.ret1 rfl (Weak.eq ?_)
    rw [hp, List.drop_eq_nil_of_le (by omega), idxFrom]
theorem sContainsFPar (l : List Par) (f : FuncId) (cs : List AV) (p : Par → Bool) (hl : l.length ≤ 9223372036854775807) (hcl : AV.closedL cs = true) (hf : ∀ x ∈ l, PFn Tryz.prog f (Par.enc x :: cs) (.bool (p x))) :
    PFn Tryz.prog 120 [.slice (l.map Par.enc) .no, .fn (.func f) [] cs] (.bool (l.any p)) := by
  have h := sIndexFPar l f cs p hl hcl hf
  refine AFn.plain rfl (by simp [AV.closed, AV.closedL, Par.closedL, hcl]) (AFn.enter [4] Tryz.func120 rfl rfl rfl rfl rfl (by decide) ?_)
  refine .go ?_
  exact Fin.ret1 rfl (Weak.eq (congrArg AV.bool (idx_any p l)))
theorem sIndexFMem (l : List Mem) (f : FuncId) (cs : List AV) (p : Mem → Bool) (hl : l.length ≤ 9223372036854775807) (hcl : AV.closedL cs = true) (hf : ∀ x ∈ l, PFn Tryz.prog f (Mem.enc x :: cs) (.bool (p x))) :
    PFn Tryz.prog 308 [.slice (l.map Mem.enc) .no, .fn (.func f) [] cs] (.int .i64 (idxFrom p l 0)) := by
  refine AFn.plain rfl (by simp [AV.closed, AV.closedL, Mem.closedL, hcl]) (AFn.enter [4] Tryz.func308 rfl rfl rfl rfl rfl (by decide) ?_)
  refine .go ?_
  refine HCode.forK l.length (fun k => [(8, .int .i64 k), (7, .int .i64 l.length), (0, .slice (l.map Mem.enc) .no), (1, .fn (.func f) [] cs)]) (fun _ => ⟨[], []⟩) (fun k => idxFrom p l 0 = idxFrom p (l.drop k) k) ⟨rfl, rfl, rfl, rfl, trivial⟩ rfl rfl fun k hk hp => ?_
  by_cases h1 : k < l.length
  · have d1 : decide ((k : Int) < (l.length : Int)) = true := by simp [h1]
    have x1 := map_get' (f := Mem.enc) h1
    have hcc := hf l[k] (List.getElem_mem h1)
    have hd := idxFrom_drop (p := p) h1
    repeat' first | refine .s1 ?_ | (refine .cond rfl ?_ ?_ <;> intro hc) | (refine A.guard rfl ?_ ?_ <;> intro hc) | fail
    · refine Fin.ret1 rfl (Weak.eq ?_)
      rw [hp, hd, if_pos hc]
    · exact ⟨h1, ⟨rfl, rfl, rfl, rfl, trivial⟩, by simp [belowS, AV.low, AV.lowL, AV.lowL_of_closed _ _ _ hcl], rfl, rfl, by rw [hp, hd, if_neg (by simp [hc])]⟩
  · have d1 : decide ((k : Int) < (l.length : Int)) = false := by simp; omega
    refine .go ?_
    refine Fin.ret1 rfl (Weak.eq ?_)
    rw [hp, List.drop_eq_nil_of_le (by omega), idxFrom]
theorem sContainsFMem (l : List Mem) (f : FuncId) (cs : List AV) (p : Mem → Bool) (hl : l.length ≤ 9223372036854775807) (hcl : AV.closedL cs = true) (hf : ∀ x ∈ l, PFn Tryz.prog f (Mem.enc x :: cs) (.bool (p x))) :
    PFn Tryz.prog 317 [.slice (l.map Mem.enc) .no, .fn (.func f) [] cs] (.bool (l.any p)) := by
  have h := sIndexFMem l f cs p hl hcl hf
  refine AFn.plain rfl (by simp [AV.closed, AV.closedL, Mem.closedL, hcl]) (AFn.enter [4] Tryz.func317 rfl rfl rfl rfl rfl (by decide) ?_)
  refine .go ?_
  exact Fin.ret1 rfl (Weak.eq (congrArg AV.bool (idx_any p l)))
theorem sIndexFFld (l : List Fld) (f : FuncId) (cs : List AV) (p : Fld → Bool) (hl : l.length ≤ 9223372036854775807) (hcl : AV.closedL cs = true) (hf : ∀ x ∈ l, PFn Tryz.prog f (Fld.enc x :: cs) (.bool (p x))) :
    PFn Tryz.prog 65 [.slice (l.map Fld.enc) .no, .fn (.func f) [] cs] (.int .i64 (idxFrom p l 0)) := by
  refine AFn.plain rfl (by simp [AV.closed, AV.closedL, Fld.closedL, hcl]) (AFn.enter [4] Tryz.func65 rfl rfl rfl rfl rfl (by decide) ?_)
  refine .go ?_
  refine HCode.forK l.length (fun k => [(8, .int .i64 k), (7, .int .i64 l.length), (0, .slice (l.map Fld.enc) .no), (1, .fn (.func f) [] cs)]) (fun _ => ⟨[], []⟩) (fun k => idxFrom p l 0 = idxFrom p (l.drop k) k) ⟨rfl, rfl, rfl, rfl, trivial⟩ rfl rfl fun k hk hp => ?_
  by_cases h1 : k < l.length
  · have d1 : decide ((k : Int) < (l.length : Int)) = true := by simp [h1]
    have x1 := map_get' (f := Fld.enc) h1
    have hcc := hf l[k] (List.getElem_mem h1)
    have hd := idxFrom_drop (p := p) h1
    repeat' first | refine .s1 ?_ | (refine .cond rfl ?_ ?_ <;> intro hc) | (refine A.guard rfl ?_ ?_ <;> intro hc) | fail
    · refine Fin.ret1 rfl (Weak.eq ?_)
      rw [hp, hd, if_pos hc]
    · exact ⟨h1, ⟨rfl, rfl, rfl, rfl, trivial⟩, by simp [belowS, AV.low, AV.lowL, AV.lowL_of_closed _ _ _ hcl], rfl, rfl, by rw [hp, hd, if_neg (by simp [hc])]⟩
  · have d1 : decide ((k : Int) < (l.length : Int)) = false := by simp; omega
    refine .go ?_
    refine Fin.ret1 rfl (Weak.eq ?_)
    rw [hp, List.drop_eq_nil_of_le (by omega), idxFrom]
theorem sContainsFFld (l : List Fld) (f : FuncId) (cs : List AV) (p : Fld → Bool) (hl : l.length ≤ 9223372036854775807) (hcl : AV.closedL cs = true) (hf : ∀ x ∈ l, PFn Tryz.prog f (Fld.enc x :: cs) (.bool (p x))) :
    PFn Tryz.prog 32 [.slice (l.map Fld.enc) .no, .fn (.func f) [] cs] (.bool (l.any p)) := by
  have h := sIndexFFld l f cs p hl hcl hf
  refine AFn.plain rfl (by simp [AV.closed, AV.closedL, Fld.closedL, hcl]) (AFn.enter [4] Tryz.func32 rfl rfl rfl rfl rfl (by decide) ?_)
  refine .go ?_
  exact Fin.ret1 rfl (Weak.eq (congrArg AV.bool (idx_any p l)))
theorem sIndexFDfn (l : List Dfn) (f : FuncId) (cs : List AV) (p : Dfn → Bool) (hl : l.length ≤ 9223372036854775807) (hcl : AV.closedL cs = true) (hf : ∀ x ∈ l, PFn Tryz.prog f (Dfn.enc x :: cs) (.bool (p x))) :
    PFn Tryz.prog 64 [.slice (l.map Dfn.enc) .no, .fn (.func f) [] cs] (.int .i64 (idxFrom p l 0)) := by
  refine AFn.plain rfl (by simp [AV.closed, AV.closedL, Dfn.closedL, hcl]) (AFn.enter [4] Tryz.func64 rfl rfl rfl rfl rfl (by decide) ?_)
  refine .go ?_
  refine HCode.forK l.length (fun k => [(8, .int .i64 k), (7, .int .i64 l.length), (0, .slice (l.map Dfn.enc) .no), (1, .fn (.func f) [] cs)]) (fun _ => ⟨[], []⟩) (fun k => idxFrom p l 0 = idxFrom p (l.drop k) k) ⟨rfl, rfl, rfl, rfl, trivial⟩ rfl rfl fun k hk hp => ?_
  by_cases h1 : k < l.length
  · have d1 : decide ((k : Int) < (l.length : Int)) = true := by simp [h1]
    have x1 := map_get' (f := Dfn.enc) h1
    have hcc := hf l[k] (List.getElem_mem h1)
    have hd := idxFrom_drop (p := p) h1
    repeat' first | refine .s1 ?_ | (refine .cond rfl ?_ ?_ <;> intro hc) | (refine A.guard rfl ?_ ?_ <;> intro hc) | fail
    · refine Fin.ret1 rfl (Weak.eq ?_)
      rw [hp, hd, if_pos hc]
    · exact ⟨h1, ⟨rfl, rfl, rfl, rfl, trivial⟩, by simp [belowS, AV.low, AV.lowL, AV.lowL_of_closed _ _ _ hcl], rfl, rfl, by rw [hp, hd, if_neg (by simp [hc])]⟩
  · have d1 : decide ((k : Int) < (l.length : Int)) = false := by simp; omega
    refine .go ?_
    refine Fin.ret1 rfl (Weak.eq ?_)
    rw [hp, List.drop_eq_nil_of_le (by omega), idxFrom]
theorem sContainsFDfn (l : List Dfn) (f : FuncId) (cs : List AV) (p : Dfn → Bool) (hl : l.length ≤ 9223372036854775807) (hcl : AV.closedL cs = true) (hf : ∀ x ∈ l, PFn Tryz.prog f (Dfn.enc x :: cs) (.bool (p x))) :
    PFn Tryz.prog 30 [.slice (l.map Dfn.enc) .no, .fn (.func f) [] cs] (.bool (l.any p)) := by
  have h := sIndexFDfn l f cs p hl hcl hf
  refine AFn.plain rfl (by simp [AV.closed, AV.closedL, Dfn.closedL, hcl]) (AFn.enter [4] Tryz.func30 rfl rfl rfl rfl rfl (by decide) ?_)
  refine .go ?_
  exact Fin.ret1 rfl (Weak.eq (congrArg AV.bool (idx_any p l)))
theorem sIndexFStr (l : List Str) (f : FuncId) (cs : List AV) (p : Str → Bool) (hl : l.length ≤ 9223372036854775807) (hcl : AV.closedL cs = true) (hf : ∀ x ∈ l, PFn Tryz.prog f (AV.str x :: cs) (.bool (p x))) :
    PFn Tryz.prog 176 [.slice (l.map AV.str) .no, .fn (.func f) [] cs] (.int .i64 (idxFrom p l 0)) := by
  refine AFn.plain rfl (by simp [AV.closed, AV.closedL, str_closedL, hcl]) (AFn.enter [4] Tryz.func176 rfl rfl rfl rfl rfl (by decide) ?_)
  refine .go ?_
  refine HCode.forK l.length (fun k => [(8, .int .i64 k), (7, .int .i64 l.length), (0, .slice (l.map AV.str) .no), (1, .fn (.func f) [] cs)]) (fun _ => ⟨[], []⟩) (fun k => idxFrom p l 0 = idxFrom p (l.drop k) k) ⟨rfl, rfl, rfl, rfl, trivial⟩ rfl rfl fun k hk hp => ?_
  by_cases h1 : k < l.length
  · have d1 : decide ((k : Int) < (l.length : Int)) = true := by simp [h1]
    have x1 := map_get' (f := AV.str) h1
    have hcc := hf l[k] (List.getElem_mem h1)
    have hd := idxFrom_drop (p := p) h1
    repeat' first | refine .s1 ?_ | (refine .cond rfl ?_ ?_ <;> intro hc) | (refine A.guard rfl ?_ ?_ <;> intro hc) | fail
    · refine Fin.ret1 rfl (Weak.eq ?_)
      rw [hp, hd, if_pos hc]
    · exact ⟨h1, ⟨rfl, rfl, rfl, rfl, trivial⟩, by simp [belowS, AV.low, AV.lowL, AV.lowL_of_closed _ _ _ hcl], rfl, rfl, by rw [hp, hd, if_neg (by simp [hc])]⟩
  · have d1 : decide ((k : Int) < (l.length : Int)) = false := by simp; omega
    refine .go ?_
    refine Fin.ret1 rfl (Weak.eq ?_)
    rw [hp, List.drop_eq_nil_of_le (by omega), idxFrom]
theorem sContainsFStr (l : List Str) (f : FuncId) (cs : List AV) (p : Str → Bool) (hl : l.length ≤ 9223372036854775807) (hcl : AV.closedL cs = true) (hf : ∀ x ∈ l, PFn Tryz.prog f (AV.str x :: cs) (.bool (p x))) :
    PFn Tryz.prog 90 [.slice (l.map AV.str) .no, .fn (.func f) [] cs] (.bool (l.any p)) := by
  have h := sIndexFStr l f cs p hl hcl hf
  refine AFn.plain rfl (by simp [AV.closed, AV.closedL, str_closedL, hcl]) (AFn.enter [4] Tryz.func90 rfl rfl rfl rfl rfl (by decide) ?_)
  refine .go ?_
  exact Fin.ret1 rfl (Weak.eq (congrArg AV.bool (idx_any p l)))
end Go.Proofs.YtgghkkeejagfkaaGreatDoor
namespace Go.Av
open Go
section
variable [Globals]
variable {P : Program} {all : Array Oper} {draw : Bool} {K : AX → Slots → St → Prop} {rest : List Oper} {acc : List Tag} {s : Slots} {σ : St} {d : Tmp} {ty : TypeId} {pos : String} {af : Array Edge}
theorem ofInt_nat {m : Nat} (h : m < 9223372036854775808) : (BitVec.ofInt 64 (m : Int)).toNat = m := by
  rw [BitVec.ofInt_natCast, BitVec.toNat_ofNat, Nat.mod_eq_of_lt (by omega)]
theorem wrap_nat {m : Nat} (h : m < 9223372036854775808) : IntKind.i64.wrap (m : Int) = (m : Int) := IntWalk.i64_in _ (by omega)
theorem A.band {x y : Operand} {T U : TypeId} {a b : Int} {m n r : Nat} (hx : ev? s x = some (.int .i64 a)) (hy : ev? s y = some (.int .i64 b)) (ha : a = (m : Int)) (hb : b = (n : Int)) (hm : m < 9223372036854775808) (hn : n < 9223372036854775808) (hr : m &&& n = r)
    (k' : AOps P all draw K rest (.pure :: acc) ((d, .int .i64 (r : Int)) :: s) σ) : AOps P all draw K (⟨some d, .binOp .and T x y U, ty, pos, af, none⟩ :: rest) acc s σ :=
  two_ops hx hy (fun g w u v hu hv => by
    cases (show u = _ from hu); cases (show v = _ from hv)
    subst ha; subst hb
    have hle : m &&& n ≤ m := Nat.and_le_left
    have e : IntKind.i64.wrap (((BitVec.ofInt IntKind.i64.bits (m : Int)) &&& (BitVec.ofInt IntKind.i64.bits (n : Int))).toNat : Int) = (r : Int) := by
      rw [BitVec.toNat_and, show (BitVec.ofInt IntKind.i64.bits (m : Int)).toNat = m from ofInt_nat hm, show (BitVec.ofInt IntKind.i64.bits (n : Int)).toNat = n from ofInt_nat hn, hr, wrap_nat (by omega)]
    exact ⟨.int .i64 (r : Int), by simp only [eqGuard, Go.binOp, Op.intBits]; rw [e]; rfl, rfl⟩) k'
theorem or_lt {m n : Nat} (hm : m < 9223372036854775808) (hn : n < 9223372036854775808) : m ||| n < 9223372036854775808 := Nat.or_lt_two_pow (n := 63) hm hn
theorem A.bor {x y : Operand} {T U : TypeId} {a b : Int} {m n r : Nat} (hx : ev? s x = some (.int .i64 a)) (hy : ev? s y = some (.int .i64 b)) (ha : a = (m : Int)) (hb : b = (n : Int)) (hm : m < 9223372036854775808) (hn : n < 9223372036854775808) (hr : m ||| n = r)
    (k' : AOps P all draw K rest (.pure :: acc) ((d, .int .i64 (r : Int)) :: s) σ) : AOps P all draw K (⟨some d, .binOp .or T x y U, ty, pos, af, none⟩ :: rest) acc s σ :=
  two_ops hx hy (fun g w u v hu hv => by
    cases (show u = _ from hu); cases (show v = _ from hv)
    subst ha; subst hb
    have hle := or_lt hm hn
    have e : IntKind.i64.wrap (((BitVec.ofInt IntKind.i64.bits (m : Int)) ||| (BitVec.ofInt IntKind.i64.bits (n : Int))).toNat : Int) = (r : Int) := by
      rw [BitVec.toNat_or, show (BitVec.ofInt IntKind.i64.bits (m : Int)).toNat = m from ofInt_nat hm, show (BitVec.ofInt IntKind.i64.bits (n : Int)).toNat = n from ofInt_nat hn, hr, wrap_nat (by omega)]
    exact ⟨.int .i64 (r : Int), by simp only [eqGuard, Go.binOp, Op.intBits]; rw [e]; rfl, rfl⟩) k'
theorem A.bclr {x y : Operand} {T U : TypeId} {a b r : Int} (hx : ev? s x = some (.int .i64 a)) (hy : ev? s y = some (.int .i64 b)) (hr : IntKind.i64.wrap (((BitVec.ofInt IntKind.i64.bits a) &&& ~~~(BitVec.ofInt IntKind.i64.bits b)).toNat : Int) = r)
    (k' : AOps P all draw K rest (.pure :: acc) ((d, .int .i64 r) :: s) σ) : AOps P all draw K (⟨some d, .binOp .andNot T x y U, ty, pos, af, none⟩ :: rest) acc s σ :=
  two_ops hx hy (fun g w u v hu hv => by
    cases (show u = _ from hu); cases (show v = _ from hv)
    exact ⟨.int .i64 r, by simp only [eqGuard, Go.binOp, Op.intBits]; rw [hr]; rfl, rfl⟩) k'
theorem and31 (m : Nat) : m &&& 31 = m % 32 := Nat.and_two_pow_sub_one_eq_mod m 5
theorem and15 (m : Nat) : m &&& 15 = m % 16 := Nat.and_two_pow_sub_one_eq_mod m 4
theorem and7 (m : Nat) : m &&& 7 = m % 8 := Nat.and_two_pow_sub_one_eq_mod m 3
theorem and63 (m : Nat) : m &&& 63 = m % 64 := Nat.and_two_pow_sub_one_eq_mod m 6
theorem or64 (m n : Nat) (h : n < 64) : m * 64 ||| n = m * 64 + n := by
  have := Nat.two_pow_add_eq_or_of_lt (i := 6) (b := n) h m
  rw [Nat.mul_comm] at this
  exact this.symm
def tailOf : Nat → Code → Code
  | 0, c => c
  | n + 1, .seq _ y => tailOf n y
  | _ + 1, c => c
def bodyOf (f : Func) : Code := f.body.getD .skip
end
end Go.Av
namespace Go.Proofs.YtgghkkeejagfkaaGreatDoor
open Go Go.Av
attribute [local irreducible] HCode AOps PFn AFn Av.Step TStep
theorem shr_musts {m l : Int} (h0 : 0 ≤ l) (h4 : l ≤ 4) : m.fdiv (2 ^ min (l + 1).toNat IntKind.i64.bits) = m / 2 ^ (l.toNat + 1) := by
  have e : min (l + 1).toNat IntKind.i64.bits = l.toNat + 1 := by
    show min (l + 1).toNat 64 = _
    omega
  rw [e, Int.fdiv_eq_ediv_of_nonneg _ (Int.le_of_lt (Int.pow_pos (by decide)))]
theorem div_zero_iff {m c : Int} (h : 0 ≤ m) (hc : 0 < c) : (m / c == 0) = decide (m < c) := by
  rw [Bool.eq_iff_iff, beq_iff_eq, decide_eq_true_eq]
  constructor
  · intro e
    have h1 := Int.emod_lt_of_pos m hc
    have h2 := Int.mul_ediv_add_emod m c
    rw [e] at h2
    omega
  · exact Int.ediv_eq_zero_of_lt h
theorem wRight (t : Typ) (hs : t.name.length ≤ 9223372036854775806) : PFn Tryz.prog 209 [t.enc] (.bool (rightT t)) := by
  have hn := lName t.name hs
  refine AFn.plain rfl rfl (AFn.enter [2] Tryz.func209 rfl rfl rfl rfl rfl (by decide) ?_)
  by_cases h1 : 0 ≤ t.lists
  · have e1 : decide (0 ≤ t.lists) = true := decide_eq_true h1
    by_cases h2 : t.lists ≤ 4
    · have e2 : decide (t.lists ≤ 4) = true := decide_eq_true h2
      by_cases h3 : 0 ≤ t.musts
      · have e3 : decide (0 ≤ t.musts) = true := decide_eq_true h3
        repeat' first | refine .br ?_ | refine .s1 ?_ | (refine .cond rfl ?_ ?_ <;> intro hc) | (refine A.guard rfl ?_ ?_ <;> intro hc) | refine A.shr rfl rfl (by omega) (shr_musts h1 h2) ?_ | fail
        all_goals
          refine Fin.ret1 rfl (Weak.eq (congrArg AV.bool ?_))
          unfold rightT
          rw [e1, e2, e3]
          try rw [div_zero_iff h3 (Int.pow_pos (by decide))]
          simp_all
      · have e3 : decide (0 ≤ t.musts) = false := decide_eq_false h3
        repeat' first | refine .br ?_ | refine .s1 ?_ | (refine .cond rfl ?_ ?_ <;> intro hc) | (refine A.guard rfl ?_ ?_ <;> intro hc) | fail
        all_goals
          refine Fin.ret1 rfl (Weak.eq (congrArg AV.bool ?_))
          unfold rightT
          rw [e3]; simp_all
    · have e2 : decide (t.lists ≤ 4) = false := decide_eq_false h2
      repeat' first | refine .br ?_ | refine .s1 ?_ | (refine .cond rfl ?_ ?_ <;> intro hc) | (refine A.guard rfl ?_ ?_ <;> intro hc) | fail
      all_goals
        refine Fin.ret1 rfl (Weak.eq (congrArg AV.bool ?_))
        unfold rightT
        rw [e2]; simp_all
  · have e1 : decide (0 ≤ t.lists) = false := decide_eq_false h1
    repeat' first | refine .br ?_ | refine .s1 ?_ | (refine .cond rfl ?_ ?_ <;> intro hc) | (refine A.guard rfl ?_ ?_ <;> intro hc) | fail
    all_goals
      refine Fin.ret1 rfl (Weak.eq (congrArg AV.bool ?_))
      unfold rightT
      rw [e1]; simp_all
theorem and1 (m : Nat) : m &&& 1 = m % 2 := Nat.and_two_pow_sub_one_eq_mod m 1
theorem bit0 (t : Typ) (h0 : 0 ≤ t.musts) (h1 : t.musts < 9223372036854775808) : PFn Tryz.prog 210 [t.enc, .int .i64 0] (.bool (decide (t.musts % 2 = 1))) := by
  refine AFn.plain rfl rfl (AFn.enter [4] Tryz.func210 rfl rfl rfl rfl rfl (by decide) ?_)
  have e : t.musts.fdiv (2 ^ min (0 : Int).toNat IntKind.i64.bits) = t.musts := by
    rw [show (2 : Int) ^ min (0 : Int).toNat IntKind.i64.bits = 1 from rfl, Int.fdiv_eq_ediv_of_nonneg _ (by decide), Int.ediv_one]
  repeat' first | refine .br ?_ | refine .s1 ?_ | (refine .cond rfl ?_ ?_ <;> intro hc) | (refine A.guard rfl ?_ ?_ <;> intro hc) | refine A.shr rfl rfl (by decide) e ?_ | refine A.band (m := t.musts.toNat) (n := 1) rfl rfl (by omega) rfl (by omega) (by decide) (and1 _) ?_ | fail
  refine Fin.ret1 rfl (Weak.eq (congrArg AV.bool ?_))
  rw [Bool.eq_iff_iff, beq_iff_eq, decide_eq_true_eq]
  omega
theorem pow_le32 {l : Int} (h : l ≤ 4) : (2 : Int) ^ (l.toNat + 1) ≤ 32 := by
  have h' : l.toNat ≤ 4 := by omega
  generalize l.toNat = n at h'
  match n, h' with
  | 0, _ => decide
  | 1, _ => decide
  | 2, _ => decide
  | 3, _ => decide
  | 4, _ => decide
theorem musts_lt {t : Typ} (h : rightT t = true) : t.musts < 32 := by
  obtain ⟨_, _, h3, _, h5⟩ := rightT_iff.1 h
  have := pow_le32 h3
  omega
theorem wIs (t : Typ) (hs : t.name.length ≤ 9223372036854775806) : PFn Tryz.prog 160 [t.enc] (.bool (isT t)) := by
  have hr := wRight t hs
  refine AFn.plain rfl rfl (AFn.enter [2] Tryz.func160 rfl rfl rfl rfl rfl (by decide) ?_)
  cases c : rightT t with
  | true =>
    rw [c] at hr
    have hb := bit0 t (rightT_iff.1 c).2.2.2.1 (by have := musts_lt c; omega)
    refine .gob ?_
    refine Fin.ret1 rfl (Weak.eq (congrArg AV.bool ?_))
    unfold isT; rw [c]; rfl
  | false =>
    rw [c] at hr
    refine .gob ?_
    refine Fin.ret1 rfl (Weak.eq (congrArg AV.bool ?_))
    unfold isT; rw [c]; rfl
theorem shr_one {m : Int} : m.fdiv (2 ^ min (1 : Int).toNat IntKind.i64.bits) = m / 2 := by
  rw [show (2 : Int) ^ min (1 : Int).toNat IntKind.i64.bits = 2 from rfl, Int.fdiv_eq_ediv_of_nonneg _ (by decide)]
theorem wItem (t : Typ) (hs : t.name.length ≤ 9223372036854775806) : PFn Tryz.prog 211 [t.enc] (.tup [(itemR t).1.enc, .bool (itemR t).2]) := by
  have hr := wRight t hs
  refine AFn.plain rfl rfl (AFn.enterR [.cell 2 32, .tmp 3] Tryz.func211 rfl rfl rfl rfl rfl ?_)
  unfold itemR
  cases c : rightT t with
  | true =>
    rw [c] at hr
    obtain ⟨_, q1, q2, q3, q4⟩ := rightT_iff.1 c
    by_cases h0 : t.lists = 0
    · have e0 : (t.lists == 0) = true := by simp [h0]
      rw [if_neg (fun h => h.2 h0)]
      refine .gob ?_
      exact FinR.ret1 rfl (Weak.refl _)
    · have e0 : (t.lists == 0) = false := by simp [h0]
      rw [if_pos ⟨rfl, h0⟩]
      repeat' first | refine .br ?_ | refine .s1 ?_ | (refine .cond rfl ?_ ?_ <;> intro hc) | (refine A.guard rfl ?_ ?_ <;> intro hc) | refine A.shr rfl rfl (by decide) shr_one ?_ | fail
      exact FinR.ret1 rfl (Weak.refl _)
  | false =>
    rw [c] at hr
    rw [if_neg (fun h => by cases h.1)]
    refine .gob ?_
    exact FinR.ret1 rfl (Weak.refl _)
theorem Dfn.size_pos (d : Dfn) : 1 ≤ d.size := by unfold Dfn.size; omega
theorem Par.size_pos (d : Par) : 1 ≤ d.size := by unfold Par.size; omega
theorem Fld.size_pos (d : Fld) : 1 ≤ d.size := by unfold Fld.size; omega
theorem Dirc.size_pos (d : Dirc) : 1 ≤ d.size := by unfold Dirc.size; omega
theorem Sch.len (s : Sch) : s.defs.length ≤ s.size := by
  have := sumSize_length Dfn.size_pos s.defs
  unfold Sch.size; omega
theorem Sch.dfn {s : Sch} {d : Dfn} (h : d ∈ s.defs) : d.size ≤ s.size := by
  have := sumSize_mem (size := Dfn.size) h
  unfold Sch.size; omega
theorem Dfn.lens (d : Dfn) : d.params.length ≤ d.size ∧ d.parts.length ≤ d.size ∧ d.faces.length ≤ d.size ∧ d.fields.length ≤ d.size ∧ d.name.length ≤ d.size := by
  have h1 := sumSize_length Par.size_pos d.params
  have h2 := sumSize_length Fld.size_pos d.fields
  have h3 := sumSize_length (size := fun x : Str => x.length + 1) (fun _ => by omega) d.parts
  have h4 := sumSize_length (size := fun x : Str => x.length + 1) (fun _ => by omega) d.faces
  unfold Dfn.size strsSize; omega
theorem Dfn.par {d : Dfn} {p : Par} (h : p ∈ d.params) : p.size ≤ d.size := by
  have := sumSize_mem (size := Par.size) h
  unfold Dfn.size; omega
theorem Par.lens (p : Par) : p.name.length ≤ p.size ∧ p.t.name.length ≤ p.size ∧ p.d.size ≤ p.size := by
  unfold Par.size Typ.size; omega
theorem dScalar (n : Str) : PFn Tryz.prog 181 [.str n] (.bool (scalarB n)) := by
  refine AFn.plain rfl rfl (AFn.enter [2] Tryz.func181 rfl rfl rfl rfl rfl (by decide) ?_)
  repeat' first | refine .s1 ?_ | (refine .cond rfl ?_ ?_ <;> intro hc) | (refine A.guard rfl ?_ ?_ <;> intro hc) | fail
  all_goals
    refine Fin.ret1 rfl (Weak.eq (congrArg AV.bool ?_))
    unfold scalarB sInt sString sBoolean sID
    simp_all
theorem weak_dfn {k : Int} {n : Str} {t1 t2 t3 t4 : Tk} : Weak (.agg [.int .i64 k, .str n, .slice [] t1, .slice [] t2, .slice [] t3, .slice [] t4]) (Dfn.enc ⟨k, n, [], [], [], []⟩) :=
  Weak.agg (WeakL.cons (Weak.refl _) (WeakL.cons (Weak.refl _) (WeakL.cons (Weak.no (WeakL.refl _)) (WeakL.cons (Weak.no (WeakL.refl _)) (WeakL.cons (Weak.no (WeakL.refl _)) (WeakL.cons (Weak.no (WeakL.refl _)) (WeakL.refl _)))))))
theorem find_drop {α : Type} {p : α → Bool} {l : List α} {k : Nat} (h : k < l.length) : (l.drop k).find? p = if p l[k] = true then some l[k] else (l.drop (k + 1)).find? p := by
  rw [List.drop_eq_getElem_cons h, List.find?_cons]
  cases p l[k] <;> rfl
theorem dFind (s : Sch) (name : Str) (hs : s.size ≤ 68719476736) : PFn Tryz.prog 108 [s.enc, .str name] (.tup [(findR s name).1.enc, .bool (findR s name).2]) := by
  have hsc := dScalar name
  have hl := s.len
  refine AFn.plain (by simp [AV.closed, AV.closedL, Dfn.closed]) (by simp [AV.closed, AV.closedL, Sch.closed]) (AFn.enterR [.cell 4 52, .tmp 5] Tryz.func108 rfl rfl rfl rfl rfl ?_)
  cases c : scalarB name with
  | true =>
    rw [c] at hsc
    refine .gob ?_
    refine FinR.ret1 rfl ?_
    rw [findR, findO, if_pos c]
    exact Weak.tup (WeakL.cons weak_dfn (WeakL.refl _))
  | false =>
    rw [c] at hsc
    refine .gob ?_
    refine HCode.forK s.defs.length (fun k => [(15, .int .i64 k), (14, .int .i64 s.defs.length), (13, .slice (s.defs.map Dfn.enc) .no), (1, .str name), (4, .ptr 0 0)])
      (fun _ => ⟨[.cells [.int .i64 0, .str [], .slice [] .nil, .slice [] .nil, .slice [] .nil, .slice [] .nil]], []⟩) (fun k => findO s name = (s.defs.drop k).find? (fun d => d.name == name))
      ⟨rfl, rfl, rfl, rfl, rfl, trivial⟩ rfl (by rw [findO, if_neg (by rw [c]; decide)]; rfl) fun k hk hp => ?_
    by_cases h1 : k < s.defs.length
    · have d1 : decide ((k : Int) < (s.defs.length : Int)) = true := by simp [h1]
      have x1 := map_get' (f := Dfn.enc) h1
      have hd := find_drop (p := fun d : Dfn => d.name == name) h1
      repeat' first | refine .lb ?_ | refine .s1 ?_ | (refine .cond rfl ?_ ?_ <;> intro hc) | (refine A.guard rfl ?_ ?_ <;> intro hc) | fail
      · refine FinR.ret1 rfl (Weak.eq ?_)
        rw [findR, hp, hd, if_pos hc]; rfl
      · exact ⟨h1, ⟨rfl, rfl, rfl, rfl, rfl, trivial⟩, by simp [belowS, AV.low], rfl, rfl, by rw [hp, hd, if_neg (by simp [hc])]⟩
    · have d1 : decide ((k : Int) < (s.defs.length : Int)) = false := by simp; omega
      refine .go ?_
      refine FinR.ret1 rfl ?_
      rw [findR, hp, List.drop_eq_nil_of_le (by omega)]
      exact Weak.tup (WeakL.cons weak_dfn (WeakL.refl _))
theorem findR_in (s : Sch) (name : Str) : (findR s name).1 ∈ s.defs ∨ (findR s name).1 = ⟨0, name, [], [], [], []⟩ ∨ (findR s name).1 = zeroD := by
  unfold findR findO
  split
  · rename_i d hd
    split at hd
    · cases hd; exact .inr (.inl rfl)
    · exact .inl (List.mem_of_find?_eq_some hd)
  · exact .inr (.inr rfl)
theorem findR_size {s : Sch} {name : Str} (h : s.size ≤ 68719476736) : (findR s name).1.params.length ≤ 68719476736 ∧ (findR s name).1.parts.length ≤ 68719476736 ∧ (findR s name).1.faces.length ≤ 68719476736 ∧ (findR s name).1.fields.length ≤ 68719476736 ∧ ∀ p ∈ (findR s name).1.params, p.size ≤ 68719476736 := by
  rcases findR_in s name with h1 | h1 | h1
  · have h2 := Sch.dfn h1
    have h3 := Dfn.lens (findR s name).1
    exact ⟨by omega, by omega, by omega, by omega, fun p hp => by have := Dfn.par hp; omega⟩
  · rw [h1]; exact ⟨by simp, by simp, by simp, by simp, by simp⟩
  · rw [h1]; exact ⟨by simp [zeroD], by simp [zeroD], by simp [zeroD], by simp [zeroD], by simp [zeroD]⟩
theorem dKind (s : Sch) (name : Str) (ks : List Int) (hs : s.size ≤ 68719476736) (hk : ks.length ≤ 68719476736) : PFn Tryz.prog 92 [s.enc, .str name, .slice (ks.map (AV.int .i64)) .no] (.bool (kindB s name ks)) := by
  have hf := dFind s name hs
  have hc := sContainsInt ks (findR s name).1.kind (by omega)
  refine AFn.plain rfl (by simp [AV.closed, AV.closedL, Sch.closed, int_closedL]) (AFn.enter [6] Tryz.func92 rfl rfl rfl rfl rfl (by decide) ?_)
  unfold kindB
  repeat' first | refine .br ?_ | refine .s1 ?_ | (refine .cond rfl ?_ ?_ <;> intro hc) | (refine A.guard rfl ?_ ?_ <;> intro hc) | fail
  all_goals
    refine Fin.ret1 rfl (Weak.eq (congrArg AV.bool ?_))
    simp_all
theorem dLeaf (s : Sch) (name : Str) (hs : s.size ≤ 68719476736) : PFn Tryz.prog 104 [s.enc, .str name] (.bool (leafB s name)) := by
  have hk := dKind s name [0, 4] hs (by decide)
  refine AFn.plain rfl (by simp [AV.closed, AV.closedL, Sch.closed]) (AFn.enter [4] Tryz.func104 rfl rfl rfl rfl rfl (by decide) ?_)
  refine .gob ?_
  exact Fin.ret1 rfl (Weak.refl _)
theorem dComposite (s : Sch) (name : Str) (hs : s.size ≤ 68719476736) : PFn Tryz.prog 105 [s.enc, .str name] (.bool (compB s name)) := by
  have hk := dKind s name [1, 2, 3] hs (by decide)
  refine AFn.plain rfl (by simp [AV.closed, AV.closedL, Sch.closed]) (AFn.enter [4] Tryz.func105 rfl rfl rfl rfl rfl (by decide) ?_)
  refine .gob ?_
  exact Fin.ret1 rfl (Weak.refl _)
theorem dEntry (s : Sch) (name : Str) (hs : s.size ≤ 68719476736) : PFn Tryz.prog 180 [s.enc, .str name] (.bool (entryB s name)) := by
  have hk := dKind s name [0, 4, 5] hs (by decide)
  refine AFn.plain rfl (by simp [AV.closed, AV.closedL, Sch.closed]) (AFn.enter [4] Tryz.func180 rfl rfl rfl rfl rfl (by decide) ?_)
  refine .gob ?_
  exact Fin.ret1 rfl (Weak.refl _)
theorem weak_zeroP {t1 t2 : Tk} : Weak (.agg [.str [], .str [], .int .i64 0, .int .i64 0, .bool false, .int .i64 0, .int .i64 0, .str [], .slice [] t1, .slice [] t2]) zeroP.enc := by
  unfold Par.enc zeroP
  rw [show (val0).lv = [] by rw [val0, lv_mk], show (val0).mv = [] by rw [val0, mv_mk]]
  exact Weak.agg (WeakL.cons (Weak.refl _) (WeakL.cons (Weak.refl _) (WeakL.cons (Weak.refl _) (WeakL.cons (Weak.refl _) (WeakL.cons (Weak.refl _) (WeakL.cons (Weak.refl _) (WeakL.cons (Weak.refl _) (WeakL.cons (Weak.refl _) (WeakL.cons (Weak.no (WeakL.refl _)) (WeakL.cons (Weak.no (WeakL.refl _)) (WeakL.refl _)))))))))))
theorem lParam1 (p : Par) (name : Str) : PFn Tryz.prog 239 [p.enc, .rptr (.str name)] (.bool (p.name == name)) := by
  refine AFn.plain rfl (by simp [AV.closed, AV.closedL, Par.closed]) (AFn.enter [3] Tryz.func239 rfl rfl rfl rfl rfl (by decide) ?_)
  refine .gob ?_
  exact Fin.ret1 rfl (Weak.refl _)
theorem lParam (l : List Par) (name : Str) (hl : l.length ≤ 9223372036854775807) : PFn Tryz.prog 197 [.slice (l.map Par.enc) .no, .str name] (.tup [(parR l name).1.enc, .bool (parR l name).2]) := by
  have h := sIndexFPar l 239 [.rptr (.str name)] (fun p => p.name == name) hl rfl (fun x _ => lParam1 x name)
  refine AFn.plain (by simp [AV.closed, AV.closedL, Par.closed]) (by simp [AV.closed, AV.closedL, Par.closedL]) (AFn.enterR [.cell 4 93, .tmp 5] Tryz.func197 rfl rfl rfl rfl rfl ?_)
  rcases idxFrom_spec (fun p : Par => p.name == name) l 0 with ⟨h1, h2⟩ | ⟨j, hj, h1, h2⟩
  · rw [h1] at h
    refine .gob ?_
    refine FinR.ret1 rfl ?_
    rw [parR, parO, h2]
    exact Weak.tup (WeakL.cons weak_zeroP (WeakL.refl _))
  · rw [h1] at h
    have d1 : decide (((0 + j : Nat) : Int) < 0) = false := decide_eq_false (by omega)
    have x1 : (l.map Par.enc)[0 + j]? = some l[j].enc := by rw [Nat.zero_add]; exact map_get' (f := Par.enc) hj
    refine .gob ?_
    refine FinR.ret1 rfl (Weak.eq ?_)
    rw [parR, parO, h2]; rfl
theorem lRequired (p : Par) (hp : p.size ≤ 68719476736) : PFn Tryz.prog 227 [p.enc] (.bool (reqB p)) := by
  have h := wIs p.t (by have := p.lens; omega)
  refine AFn.plain rfl (by simp [AV.closed, AV.closedL, Par.closed]) (AFn.enter [2] Tryz.func227 rfl rfl rfl rfl rfl (by decide) ?_)
  unfold reqB
  repeat' first | refine .br ?_ | refine .s1 ?_ | (refine .cond rfl ?_ ?_ <;> intro hc) | (refine A.guard rfl ?_ ?_ <;> intro hc) | fail
  all_goals
    refine Fin.ret1 rfl (Weak.eq (congrArg AV.bool ?_))
    simp_all
theorem lInput1 (x m : Mem) : PFn Tryz.prog 318 [x.enc, .rptr m.enc] (.bool (x.name == m.name)) := by
  refine AFn.plain rfl (by simp [AV.closed, AV.closedL, Mem.closed]) (AFn.enter [3] Tryz.func318 rfl rfl rfl rfl rfl (by decide) ?_)
  refine .gob ?_
  exact Fin.ret1 rfl (Weak.refl _)
theorem getG_snd (name : Str) : ∀ l : List Mem, (getG name l).2 = l.any fun x => x.name == name
  | [] => rfl
  | m :: l => by
    rw [getG, List.any_cons]
    cases m.name == name with
    | true => rfl
    | false => rw [if_neg (by decide), getG_snd name l]; rfl
theorem any_name (x : Str) (l : List Mem) : (l.any fun y => y.name == x) = decide (x ∈ l.map Mem.name) := by
  rw [Bool.eq_iff_iff, List.any_eq_true, decide_eq_true_eq, List.mem_map]
  constructor
  · rintro ⟨y, hy, e⟩; exact ⟨y, hy, by simpa using e⟩
  · rintro ⟨y, hy, e⟩; exact ⟨y, hy, by simp [e]⟩
theorem needsB_drop {m : List Mem} {ps : List Par} {k : Nat} (h : k < ps.length) : needsB m (ps.drop k) = (((m.any fun x => x.name == ps[k].name) || !reqB ps[k]) && needsB m (ps.drop (k + 1))) := by
  rw [List.drop_eq_getElem_cons h, needsB]
theorem lInput (s : Sch) (ps : List Par) (v : Val) (hs : s.size ≤ 68719476736) (hps : ps.length ≤ 68719476736) (hpz : ∀ p ∈ ps, p.size ≤ 68719476736) (hv : v.size ≤ 68719476736)
    (ih : ∀ x ∈ v.m, ∀ t : Typ, t.name.length ≤ 68719476736 → PFn Tryz.prog 229 [s.enc, t.enc, x.v.enc, .bool false] (.bool (fitsV s x.v t false))) :
    PFn Tryz.prog 294 [s.enc, .slice (ps.map Par.enc) .no, v.enc] (.bool (inputB s ps v)) := by
  have hml := v.m_len
  refine AFn.plain rfl (by simp [AV.closed, AV.closedL, Sch.closed, Par.closedL, Val.closed]) (AFn.enter [6] Tryz.func294 rfl rfl rfl rfl rfl (by decide) ?_)
  unfold inputB
  by_cases c7 : v.kind = 7
  · have e7 : (v.kind != 7) = false := by rw [c7]; rfl
    have e7' : (v.kind == 7) = true := by rw [c7]; rfl
    rw [e7', Bool.true_and]
    refine .gob ?_
    refine HCode.forK v.m.length (fun k => [(21, .int .i64 k), (20, .int .i64 v.mv.length), (19, .slice v.mv .no), (1, .slice (ps.map Par.enc) .no), (3, .rptr s.enc), (5, .rptr v.enc)])
      (fun _ => ⟨[], []⟩) (fun k => fitsM s ps v.m [] = fitsM s ps (v.m.drop k) ((v.m.take k).map Mem.name)) ⟨rfl, rfl, rfl, rfl, rfl, rfl, trivial⟩ rfl rfl fun k hk hp => ?_
    by_cases h1 : k < v.m.length
    · have d1 : decide ((k : Int) < (v.mv.length : Int)) = true := by rw [v.mv_len]; simp [h1]
      have x1 := Val.mv_get h1
      have hpar := lParam ps v.m[k].name (by omega)
      have hd := fitsM_drop (s := s) (ps := ps) h1
      have htk : v.mv.take k = (v.m.take k).map Mem.enc := by rw [v.mv_eq, List.map_take]
      have hcf := sContainsFMem (v.m.take k) 318 [.rptr v.m[k].enc] (fun x => x.name == v.m[k].name) (by rw [List.length_take]; omega) (by simp [AV.closed, AV.closedL, Mem.closed]) (fun x _ => lInput1 x _)
      rw [← htk, any_name] at hcf
      have hkv : k ≤ v.mv.length := by rw [v.mv_len]; omega
      cases hpo : parO ps v.m[k].name with
      | none =>
        have e1 : parR ps v.m[k].name = (zeroP, false) := by rw [parR, hpo]
        rw [e1] at hpar
        rw [hpo] at hd
        repeat' first | refine A.allocv (d := 8) rfl rfl rfl rfl rfl ?_ | refine HCode.turn 8 rfl (Turn.freezeP rfl rfl rfl rfl) ?_ | refine .s1 ?_ | (refine .cond rfl ?_ ?_ <;> intro hc) | (refine A.guard rfl ?_ ?_ <;> intro hc) | refine A.vstore (agg := true) rfl rfl rfl rfl rfl rfl rfl rfl rfl rfl rfl ?_ | fail
        refine Fin.ret1 rfl (Weak.eq (congrArg AV.bool ?_))
        rw [hp, hd]; rfl
      | some p =>
        have e1 : parR ps v.m[k].name = (p, true) := by rw [parR, hpo]
        have hpm : p ∈ ps := List.mem_of_find?_eq_some hpo
        have hpl := p.lens
        have hpz' := hpz p hpm
        have hft := ih v.m[k] (List.getElem_mem h1) p.t (by omega)
        rw [e1] at hpar
        rw [hpo] at hd
        repeat' first | refine A.allocv (d := 8) rfl rfl rfl rfl rfl ?_ | refine HCode.turn 8 rfl (Turn.freezeP rfl rfl rfl rfl) ?_ | refine .s1 ?_ | (refine .cond rfl ?_ ?_ <;> intro hc) | (refine A.guard rfl ?_ ?_ <;> intro hc) | refine A.vstore (agg := true) rfl rfl rfl rfl rfl rfl rfl rfl rfl rfl rfl ?_ | refine A.slice 0 k rfl rfl rfl rfl rfl rfl rfl rfl (Nat.zero_le _) hkv (.inl rfl) ?_ | fail
        all_goals first | (refine Fin.ret1 rfl (Weak.eq (congrArg AV.bool ?_)); rw [hp, hd]; simp_all; done) | (exact ⟨h1, ⟨rfl, rfl, rfl, rfl, rfl, rfl, trivial⟩, by simp [belowS, AV.low], rfl, rfl, by rw [hp, hd]; simp_all⟩)
    · have d1 : decide ((k : Int) < (v.mv.length : Int)) = false := by rw [v.mv_len]; simp; omega
      have hpe : fitsM s ps v.m [] = true := by rw [hp, List.drop_eq_nil_of_le (by omega), fitsM]
      rw [hpe, Bool.true_and]
      refine .go ?_
      refine HCode.forK ps.length (fun k => [(55, .int .i64 k), (54, .int .i64 ps.length), (53, .slice (ps.map Par.enc) .no), (5, .rptr v.enc)])
        (fun _ => ⟨[], []⟩) (fun k => needsB v.m ps = needsB v.m (ps.drop k)) ⟨rfl, rfl, rfl, rfl, trivial⟩ rfl rfl fun j hj hq => ?_
      by_cases h2 : j < ps.length
      · have d2 : decide ((j : Int) < (ps.length : Int)) = true := by simp [h2]
        have x2 := map_get' (f := Par.enc) h2
        have hg := get ps[j].name v.m (by omega)
        rw [← v.mv_eq, getG_snd] at hg
        have hrq := lRequired ps[j] (hpz _ (List.getElem_mem h2))
        have hd := needsB_drop (m := v.m) h2
        repeat' first | refine .s1 ?_ | (refine .cond rfl ?_ ?_ <;> intro hc) | (refine A.guard rfl ?_ ?_ <;> intro hc) | fail
        all_goals first | (refine Fin.ret1 rfl (Weak.eq (congrArg AV.bool ?_)); rw [hq, hd]; simp_all; done) | (exact ⟨h2, ⟨rfl, rfl, rfl, rfl, trivial⟩, by simp [belowS, AV.low], rfl, rfl, by rw [hq, hd]; simp_all⟩)
      · have d2 : decide ((j : Int) < (ps.length : Int)) = false := by simp; omega
        refine .go ?_
        refine Fin.ret1 rfl (Weak.eq (congrArg AV.bool ?_))
        rw [hq, List.drop_eq_nil_of_le (by omega), needsB]
  · have e7 : (v.kind != 7) = true := by simp [c7]
    have e7' : (v.kind == 7) = false := by simp [c7]
    rw [e7', Bool.false_and]
    refine .gob ?_
    exact Fin.ret1 rfl (Weak.refl _)
theorem sizeL_take (l : List Val) (k : Nat) : Val.sizeL (l.take k) ≤ Val.sizeL l := by
  induction l generalizing k with
  | nil => simp
  | cons x l ih =>
    cases k with
    | zero => simp [Val.sizeL]
    | succ k => simp only [List.take_succ_cons, Val.sizeL]; have := ih k; omega
theorem sizeM_take (l : List Mem) (k : Nat) : Val.sizeM (l.take k) ≤ Val.sizeM l := by
  induction l generalizing k with
  | nil => simp
  | cons x l ih =>
    cases k with
    | zero => simp [Val.sizeM]
    | succ k => cases x; simp only [List.take_succ_cons, Val.sizeM]; have := ih k; omega
theorem Val.size_parts (v : Val) : Val.sizeL v.l ≤ v.size ∧ Val.sizeM v.m ≤ v.size := by
  cases v; rw [Val.size]; simp only [Val.l, Val.m]; omega
end Go.Proofs.YtgghkkeejagfkaaGreatDoor
namespace Go.Av
open Go
section
variable [Globals]
variable {P : Program} {all : Array Oper} {draw : Bool} {K : AX → Slots → St → Prop} {rest : List Oper} {acc : List Tag} {s : Slots} {σ : St} {d : Option Tmp} {ty : TypeId} {pos : String} {af : Array Edge}
theorem A.callG {f : FuncId} {args : Array Operand} {tys : Array TypeId} {xs ys cls cls' : List AV} {z n n' : Nat} {T' : List Tok} (j : Nat) (ha : evsK s args.toList some = some (.slice xs (.own j z) :: cls))
    (hp : AFn P f (.slice xs (.own 0 z) :: cls') ⟨[], [.len n]⟩ (fun e σ1 => e = .ret (.slice ys (.own 0 z)) ∧ σ1 = ⟨[], [.len n']⟩)) (hj : σ.T[j]? = some (.len n)) (hx : AV.closedL xs = true) (hy : AV.closedL ys = true) (hc : AV.closedL cls' = true) (hw : WeakL cls cls')
    (hT' : setTK j (.len n') σ.T some = some T') (k : AOps P all draw K rest (.all :: acc) (putS d (.slice ys (.own j z)) s) ⟨σ.B, T'⟩) : AOps P all draw K (⟨d, .call ⟨.value (.func f), args, tys⟩, ty, pos, af, none⟩ :: rest) acc s σ := by
  have hjl : j < σ.T.length := (List.getElem?_eq_some_iff.1 hj).1
  have hemb : emb σ.T.length [j] 0 = j := rfl
  refine A.callR (nB := σ.B.length) (nT := σ.T.length) (B0 := []) (T0 := [.len n]) (B1 := []) (T1 := [.len n']) (v0 := .slice ys (.own 0 z)) [] [j] ha hp rfl rfl ⟨List.nodup_nil, by simp⟩ ⟨by simp, by simpa using hjl⟩ rfl rfl (fun k i ob h => by simp at h) (fun k i t h ht => ?_) rfl rfl
    ?_ ?_ ?_ (B' := σ.B) (T' := T') ?_ ?_ k
  · cases k with
    | zero => simp at h ht; subst h; subst ht; exact hj
    | succ k => simp at h
  · simp only [AV.lowL, AV.low, AV.lowL_of_closed _ _ _ hx, AV.lowL_of_closed _ _ _ hc]; rfl
  · rw [AV.renL, AV.ren, AV.renL_closed _ _ _ hx, AV.renL_closed _ _ _ hc]
    exact WeakL.cons (Weak.refl _) hw
  · rw [AV.ren, AV.renL_closed _ _ _ hy]; rfl
  · rw [merge_nil]; simp
  · obtain ⟨_, hTe⟩ := setTK_spec _ _ _ _ _ hT'
    rw [← Option.some.inj hTe]
    simp [merge, upd, Tok.ren]
end
end Go.Av
namespace Go.Proofs.YtgghkkeejagfkaaGreatDoor
open Go Go.Av
attribute [local irreducible] HCode AOps PFn AFn Av.Step TStep
theorem varsV_eq (v : Val) (acc : List Str) : varsV v acc = if v.kind = 8 then addNew acc v.s else if v.kind = 6 then varsL v.l acc else if v.kind = 7 then varsM v.m acc else acc := by
  cases v; rw [varsV]; rfl
theorem addNew_len (acc : List Str) (x : Str) : (addNew acc x).length ≤ acc.length + 1 := by
  unfold addNew; split <;> simp
mutual
theorem varsV_len : ∀ (v : Val) (acc : List Str), (varsV v acc).length ≤ acc.length + v.size
  | .mk k n str l m, acc => by
    have h1 := varsL_len l acc
    have h2 := varsM_len m acc
    have h3 := addNew_len acc str
    rw [varsV, Val.size]
    split
    · omega
    · split
      · omega
      · split <;> omega
theorem varsL_len : ∀ (l : List Val) (acc : List Str), (varsL l acc).length ≤ acc.length + Val.sizeL l
  | [], acc => by rw [varsL]; omega
  | v :: l, acc => by
    have h1 := varsV_len v acc
    have h2 := varsL_len l (varsV v acc)
    rw [varsL, Val.sizeL]; omega
theorem varsM_len : ∀ (m : List Mem) (acc : List Str), (varsM m acc).length ≤ acc.length + Val.sizeM m
  | [], acc => by rw [varsM]; omega
  | .mk _ v :: m, acc => by
    have h1 := varsV_len v acc
    have h2 := varsM_len m (varsV v acc)
    rw [varsM, Val.sizeM]; omega
end
theorem varsL_app : ∀ (a b : List Val) (acc : List Str), varsL (a ++ b) acc = varsL b (varsL a acc)
  | [], b, acc => by rw [varsL]; rfl
  | x :: a, b, acc => by rw [List.cons_append, varsL, varsL, varsL_app a b]
theorem varsM_app : ∀ (a b : List Mem) (acc : List Str), varsM (a ++ b) acc = varsM b (varsM a acc)
  | [], b, acc => by rw [varsM]; rfl
  | .mk _ _ :: a, b, acc => by rw [List.cons_append, varsM, varsM, varsM_app a b]
theorem varsL_take {l : List Val} {k : Nat} {acc : List Str} (h : k < l.length) : varsL (l.take (k + 1)) acc = varsV l[k] (varsL (l.take k) acc) := by
  rw [List.take_succ_eq_append_getElem h, varsL_app, varsL, varsL]
theorem varsM_take {l : List Mem} {k : Nat} {acc : List Str} (h : k < l.length) : varsM (l.take (k + 1)) acc = varsV l[k].v (varsM (l.take k) acc) := by
  rw [List.take_succ_eq_append_getElem h, varsM_app]
  cases l[k]; rw [varsM, varsM]; rfl
theorem sizeL_succ {l : List Val} {k : Nat} (h : k < l.length) : Val.sizeL (l.take (k + 1)) = Val.sizeL (l.take k) + l[k].size := by
  rw [Val.sizeL_eq, Val.sizeL_eq]
  induction l generalizing k with
  | nil => simp at h
  | cons x l ih =>
    cases k with
    | zero => simp [sumSize]
    | succ k => simp only [List.take_succ_cons, sumSize, List.getElem_cons_succ]; rw [ih (by simpa using h)]; omega
theorem sizeM_succ {l : List Mem} {k : Nat} (h : k < l.length) : Val.sizeM (l.take (k + 1)) = Val.sizeM (l.take k) + l[k].name.length + 2 + l[k].v.size := by
  induction l generalizing k with
  | nil => simp at h
  | cons x l ih =>
    cases k with
    | zero => cases x; simp [Val.sizeM, Mem.name, Mem.v]
    | succ k => cases x; simp only [List.take_succ_cons, Val.sizeM, List.getElem_cons_succ]; rw [ih (by simpa using h)]; omega
abbrev VarsC (v : Val) (xs : List Str) : Prop := AFn Tryz.prog 349 [.slice (xs.map AV.str) (.own 0 1), v.enc] ⟨[], [.len xs.length]⟩ (fun e σ => e = .ret (.slice ((varsV v xs).map AV.str) (.own 0 1)) ∧ σ = ⟨[], [.len (varsV v xs).length]⟩)
theorem varsBody (v : Val) (hv : v.size ≤ 68719476736) (ihL : ∀ x ∈ v.l, ∀ xs : List Str, xs.length + x.size ≤ 137438953472 → VarsC x xs) (ihM : ∀ x ∈ v.m, ∀ xs : List Str, xs.length + x.v.size ≤ 137438953472 → VarsC x.v xs) (xs : List Str) (hxs : xs.length + v.size ≤ 137438953472) :
    HCode Tryz.prog Tryz.f349.ntmps [] (bodyOf Tryz.f349) (fin [4] (fun e σ => e = .ret (.slice ((varsV v xs).map AV.str) (.own 0 1)) ∧ σ = ⟨[], [.len (varsV v xs).length]⟩))
      [(0, .slice (xs.map AV.str) (.own 0 1)), (1, v.enc)] ⟨[], [.len xs.length]⟩ := by
  have hct := sContainsStr xs v.s (by omega)
  have hwk : WeakL [.slice (xs.map AV.str) (.own 0 1), .str v.s] [.slice (xs.map AV.str) .no, .str v.s] := WeakL.cons (Weak.no (WeakL.refl _)) (WeakL.refl _)
  have hll := v.l_len
  have hml := v.m_len
  have hsp := v.size_parts
  rw [varsV_eq]
  by_cases k8 : v.kind = 8
  · have q8 : (v.kind == 8) = true := by simp [k8]
    rw [if_pos k8]
    unfold addNew
    by_cases c : v.s ∈ xs
    · rw [decide_eq_true c] at hct
      rw [if_pos c]
      repeat' first | refine .br ?_ | refine A.call rfl hct hwk ?_ | refine .s1 ?_ | (refine .cond rfl ?_ ?_ <;> intro hc) | (refine A.guard rfl ?_ ?_ <;> intro hc) | fail
      exact ⟨rfl, rfl⟩
    · rw [decide_eq_false c] at hct
      rw [if_neg c]
      repeat' first | refine .br ?_ | refine A.call rfl hct hwk ?_ | refine .s1 ?_ | (refine .cond rfl ?_ ?_ <;> intro hc) | (refine A.guard rfl ?_ ?_ <;> intro hc) | refine A.append (n := xs.length) rfl rfl rfl rfl rfl rfl rfl rfl (List.length_map ..) rfl (by dsimp only [List.length_cons, List.length_nil]; omega) (by dsimp only [List.length_cons, List.length_nil]; omega) rfl ?_ | fail
      exact ⟨by rw [List.map_append]; rfl, by rw [List.length_append]; rfl⟩
  · have q8 : (v.kind == 8) = false := by simp [k8]
    rw [if_neg k8]
    by_cases k6 : v.kind = 6
    · have q6 : (v.kind == 6) = true := by simp [k6]
      rw [if_pos k6]
      refine .gob ?_
      refine HCode.forK v.l.length (fun k => [(28, .int .i64 k), (27, .int .i64 v.lv.length), (26, .slice v.lv .no), (0, .slice ((varsL (v.l.take k) xs).map AV.str) (.own 0 1))])
        (fun k => ⟨[], [.len (varsL (v.l.take k) xs).length]⟩) (fun _ => True) ⟨rfl, rfl, rfl, by rw [List.take_zero, varsL]; rfl, trivial⟩ (by rw [List.take_zero, varsL]) trivial fun k hk _ => ?_
      by_cases h1 : k < v.l.length
      · have d1 : decide ((k : Int) < (v.lv.length : Int)) = true := by rw [v.lv_len]; simp [h1]
        have x1 := Val.lv_get h1
        have hlen := varsL_len (v.l.take k) xs
        have hlt := sizeL_take v.l (k + 1)
        have hst := sizeL_succ h1
        have hcc := ihL v.l[k] (List.getElem_mem h1) (varsL (v.l.take k) xs) (by omega)
        rw [VarsC, ← varsL_take h1] at hcc
        repeat' first | refine .s1 ?_ | (refine .cond rfl ?_ ?_ <;> intro hc) | (refine A.guard rfl ?_ ?_ <;> intro hc) | refine A.callG 0 rfl hcc rfl (str_closedL _) (str_closedL _) (by simp [AV.closedL, Val.closed]) (WeakL.refl _) rfl ?_ | fail
        exact ⟨h1, ⟨rfl, rfl, rfl, rfl, trivial⟩, by simp [belowS, AV.low], rfl, rfl, trivial⟩
      · have d1 : decide ((k : Int) < (v.lv.length : Int)) = false := by rw [v.lv_len]; simp; omega
        obtain rfl : k = v.l.length := by omega
        rw [List.take_length]
        refine .go ?_
        exact ⟨rfl, rfl⟩
    · have q6 : (v.kind == 6) = false := by simp [k6]
      rw [if_neg k6]
      by_cases k7 : v.kind = 7
      · have q7 : (v.kind == 7) = true := by simp [k7]
        rw [if_pos k7]
        refine .gob ?_
        refine HCode.forK v.m.length (fun k => [(41, .int .i64 k), (40, .int .i64 v.mv.length), (39, .slice v.mv .no), (0, .slice ((varsM (v.m.take k) xs).map AV.str) (.own 0 1))])
          (fun k => ⟨[], [.len (varsM (v.m.take k) xs).length]⟩) (fun _ => True) ⟨rfl, rfl, rfl, by rw [List.take_zero, varsM]; rfl, trivial⟩ (by rw [List.take_zero, varsM]) trivial fun k hk _ => ?_
        by_cases h1 : k < v.m.length
        · have d1 : decide ((k : Int) < (v.mv.length : Int)) = true := by rw [v.mv_len]; simp [h1]
          have x1 := Val.mv_get h1
          have hlen := varsM_len (v.m.take k) xs
          have hlt := sizeM_take v.m (k + 1)
          have hst := sizeM_succ h1
          have hcc := ihM v.m[k] (List.getElem_mem h1) (varsM (v.m.take k) xs) (by omega)
          rw [VarsC, ← varsM_take h1] at hcc
          repeat' first | refine .s1 ?_ | (refine .cond rfl ?_ ?_ <;> intro hc) | (refine A.guard rfl ?_ ?_ <;> intro hc) | refine A.callG 0 rfl hcc rfl (str_closedL _) (str_closedL _) (by simp [AV.closedL, Val.closed]) (WeakL.refl _) rfl ?_ | fail
          exact ⟨h1, ⟨rfl, rfl, rfl, rfl, trivial⟩, by simp [belowS, AV.low], rfl, rfl, trivial⟩
        · have d1 : decide ((k : Int) < (v.mv.length : Int)) = false := by rw [v.mv_len]; simp; omega
          obtain rfl : k = v.m.length := by omega
          rw [List.take_length]
          refine .go ?_
          exact ⟨rfl, rfl⟩
      · have q7 : (v.kind == 7) = false := by simp [k7]
        rw [if_neg k7]
        refine .gob ?_
        exact ⟨rfl, rfl⟩
theorem vVarsC : ∀ N : Nat, N ≤ 68719476736 → ∀ v : Val, v.size ≤ N → ∀ xs : List Str, xs.length + v.size ≤ 137438953472 → VarsC v xs
  | 0, _, v, hv => absurd hv (by have := v.size_pos; omega)
  | N + 1, hN, v, hv => fun xs hxs => by
    have ih := vVarsC N (by omega)
    have hb := varsBody v (by omega) (fun x hx ys hy => ih x (by
      obtain ⟨k, hk, rfl⟩ := List.getElem_of_mem hx
      have := Val.size_l hk; omega) ys hy) (fun x hx ys hy => ih x.v (by
      obtain ⟨k, hk, rfl⟩ := List.getElem_of_mem hx
      have := Val.size_m hk; omega) ys hy) xs hxs
    exact AFn.enter [4] Tryz.func349 rfl rfl rfl rfl rfl (by decide) hb
theorem vVars (v : Val) (hv : v.size ≤ 68719476736) : PFn Tryz.prog 336 [v.enc] (.slice ((varsV v []).map AV.str) .no) := by
  have hn : PFn Tryz.prog 349 [.slice [] .nil, v.enc] (.slice ((varsV v []).map AV.str) .no) := by
    have hb := varsBody v hv (fun x hx ys hy => vVarsC 68719476736 (Nat.le_refl _) x (by
      obtain ⟨k, hk, rfl⟩ := List.getElem_of_mem hx
      have := Val.size_l hk; omega) ys hy) (fun x hx ys hy => vVarsC 68719476736 (Nat.le_refl _) x.v (by
      obtain ⟨k, hk, rfl⟩ := List.getElem_of_mem hx
      have := Val.size_m hk; omega) ys hy) [] (by simp only [List.length_nil]; omega)
    refine AFn.plain (by simp [AV.closed, str_closedL]) (by simp [AV.closed, AV.closedL, Val.closed]) (AFn.enter [4] Tryz.func349 rfl rfl rfl rfl rfl (by decide) ?_)
    refine HCode.adopt 0 false 1 rfl rfl rfl rfl rfl rfl ?_
    refine HCode.weaken (s := [(0, .slice [] (.own 0 1)), (1, v.enc)]) (hb.mono fun e s σ h => ?_) ⟨rfl, rfl, trivial⟩
    cases e with
    | normal => exact ⟨_, h.1, Weak.no (WeakL.refl _)⟩
    | ret => exact ⟨_, h.1, Weak.no (WeakL.refl _)⟩
    | pan x => exact absurd h.1 (by simp)
    | exit id => exact h
    | goto l => exact h
  refine AFn.plain (by simp [AV.closed, str_closedL]) (by simp [AV.closed, AV.closedL, Val.closed]) (AFn.enter [2] Tryz.func336 rfl rfl rfl rfl rfl (by decide) ?_)
  refine .gob ?_
  exact Fin.ret1 rfl (Weak.refl _)
end Go.Proofs.YtgghkkeejagfkaaGreatDoor
