/-
  The law PathAdds: the functions that it reaches, and the law.
-/
import Derived.Test.YtaapdhocpadjaaaMPathC
namespace Go.Proofs.Ytaapdhocpadjaaa
open Go Go.Av
set_option maxRecDepth 100000
set_option maxHeartbeats 4000000
set_option linter.unusedVariables false
attribute [local irreducible] HCode AOps PFn AFn Av.Step TStep

def stepEq (a b : Step) : Bool := a.name == b.name && (a.at_ == b.at_ && true)
def stepsEq : Path → Path → Bool
  | [], [] => true
  | a :: p, b :: q => stepEq a b && stepsEq p q
  | _, _ => false
theorem stepEq_self (a : Step) : stepEq a a = true := by simp [stepEq]
theorem stepsEq_self : ∀ p : Path, stepsEq p p = true
  | [] => rfl
  | a :: p => by simp [stepsEq, stepEq_self, stepsEq_self p]
theorem stepsEq_len : ∀ {p q : Path}, p.length ≠ q.length → stepsEq p q = false
  | [], [], h => absurd rfl h
  | [], _ :: _, _ => rfl
  | _ :: _, [], _ => rfl
  | a :: p, b :: q, h => by simp [stepsEq, stepsEq_len (p := p) (q := q) (by simpa using h)]
theorem stepsEq_drop {a b : Path} {k : Nat} (h1 : k < a.length) (h2 : k < b.length) : stepsEq (a.drop k) (b.drop k) = (stepEq a[k] b[k] && stepsEq (a.drop (k + 1)) (b.drop (k + 1))) := by
  rw [List.drop_eq_getElem_cons h1, List.drop_eq_getElem_cons h2, stepsEq]

theorem sameSteps (a b : Path) (ha : a.length ≤ 9223372036854775807) : PFn Try.prog 20 [Path.enc a, Path.enc b] (.bool (stepsEq a b)) := by
  refine AFn.plain rfl (Path.closed2 a b) (AFn.enter [4] Try.func20 rfl rfl rfl rfl rfl (by decide) ?_)
  by_cases hl : a.length = b.length
  · have d0 : ((a.length : Int) != (b.length : Int)) = false := by simp [hl]
    repeat' first
      | refine HCode.seq ?_ | refine HCode.region rfl ?_ | refine HCode.region_draw Lay.mix rfl ?_ | refine HCode.block ?_ | refine HCode.scope ?_ | refine HCode.skip ?_ | refine HCode.exit ?_ | refine HCode.ret ?_
      | refine HCode.cond_true rfl ?_ | refine HCode.cond_false rfl ?_ | refine HCode.cond_yes rfl (by assumption) ?_ | refine HCode.cond_no rfl (by assumption) ?_ | (refine HCode.cond rfl ?_ ?_ <;> intro hc)
      | refine A.nil_seq ?_ | refine A.nil (fun _ => rfl) ?_ | refine A.yes rfl rfl ?_ | refine A.no rfl rfl ?_ | refine A.yes rfl (by assumption) ?_ | refine A.no rfl (by assumption) ?_ | (refine A.guard rfl ?_ ?_ <;> intro hc)
      | refine A.move rfl ?_ | refine A.assign rfl ?_ | refine A.load_b rfl rfl rfl rfl ?_ | refine A.load_r rfl rfl rfl ?_ | refine A.field_b rfl rfl rfl rfl rfl rfl ?_ | refine A.field_r rfl rfl rfl rfl rfl rfl ?_ | refine A.field rfl rfl rfl rfl rfl ?_
      | refine A.index_r rfl rfl rfl rfl rfl rfl (by assumption) rfl ?_ | refine A.len rfl rfl rfl (by first | rw [List.length_map] | rfl) ?_ | refine A.lens rfl rfl rfl rfl ?_
      | refine A.pick_true rfl rfl rfl ?_ | refine A.pick_false rfl rfl rfl ?_ | refine A.pick_true rfl (by assumption) rfl ?_ | refine A.pick_false rfl (by assumption) rfl ?_
      | refine A.box rfl rfl rfl ?_ | refine A.alloc rfl rfl rfl ?_ | refine A.store rfl rfl rfl rfl rfl ?_ | refine A.build rfl rfl rfl rfl ?_ | refine A.buildSlice rfl rfl rfl rfl rfl rfl rfl ?_
      | refine A.eqi rfl rfl ?_ | refine A.nei rfl rfl ?_ | refine A.lss rfl rfl ?_ | refine A.leq rfl rfl ?_ | refine A.gtr rfl rfl ?_ | refine A.geq rfl rfl ?_ | refine A.eqs rfl rfl ?_ | refine A.nes rfl rfl ?_ | refine A.lts rfl rfl ?_ | refine A.gts rfl rfl ?_
      | refine A.not rfl ?_ | refine A.extract rfl rfl ?_ | refine A.add64 rfl rfl rfl (by omega) ?_ | refine A.sub64 rfl rfl rfl (by omega) ?_
    change HCode _ _ _ _ _ _ _
    refine HCode.loop (fun n s σ => ∃ k : Nat, n = a.length - k ∧ k ≤ a.length ∧ stepsEq a b = stepsEq (a.drop k) (b.drop k) ∧ σ = ⟨[], []⟩ ∧
      s = [(5, .int .i64 k), (0, Path.enc a), (1, Path.enc b)])
      (s0 := [(5, .int .i64 (0 : Nat)), (0, Path.enc a), (1, Path.enc b)])
      ⟨rfl, rfl, rfl, trivial⟩ ⟨0, rfl, Nat.zero_le _, rfl, rfl, rfl⟩ ?_
    rintro n s σ ⟨k, rfl, hk, hp, rfl, rfl⟩
    by_cases h1 : k < a.length
    · have d1 : decide ((k : Int) < (a.length : Int)) = true := by simp [h1]
      have x1 := map_get (f := Step.enc) h1
      have h2 : k < b.length := by omega
      have x2 := map_get (f := Step.enc) h2
      repeat' first
        | refine HCode.seq ?_ | refine HCode.region rfl ?_ | refine HCode.region_draw Lay.mix rfl ?_ | refine HCode.block ?_ | refine HCode.scope ?_ | refine HCode.skip ?_ | refine HCode.exit ?_ | refine HCode.ret ?_
        | refine HCode.cond_true rfl ?_ | refine HCode.cond_false rfl ?_ | refine HCode.cond_yes rfl (by assumption) ?_ | refine HCode.cond_no rfl (by assumption) ?_ | (refine HCode.cond rfl ?_ ?_ <;> intro hc)
        | refine A.nil_seq ?_ | refine A.nil (fun _ => rfl) ?_ | refine A.yes rfl rfl ?_ | refine A.no rfl rfl ?_ | refine A.yes rfl (by assumption) ?_ | refine A.no rfl (by assumption) ?_ | (refine A.guard rfl ?_ ?_ <;> intro hc)
        | refine A.move rfl ?_ | refine A.assign rfl ?_ | refine A.load_b rfl rfl rfl rfl ?_ | refine A.load_r rfl rfl rfl ?_ | refine A.field_b rfl rfl rfl rfl rfl rfl ?_ | refine A.field_r rfl rfl rfl rfl rfl rfl ?_ | refine A.field rfl rfl rfl rfl rfl ?_
        | refine A.index_r rfl rfl rfl rfl rfl rfl (by assumption) rfl ?_ | refine A.len rfl rfl rfl (by first | rw [List.length_map] | rfl) ?_ | refine A.lens rfl rfl rfl rfl ?_
        | refine A.pick_true rfl rfl rfl ?_ | refine A.pick_false rfl rfl rfl ?_ | refine A.pick_true rfl (by assumption) rfl ?_ | refine A.pick_false rfl (by assumption) rfl ?_
        | refine A.box rfl rfl rfl ?_ | refine A.alloc rfl rfl rfl ?_ | refine A.store rfl rfl rfl rfl rfl ?_ | refine A.build rfl rfl rfl rfl ?_ | refine A.buildSlice rfl rfl rfl rfl rfl rfl rfl ?_
        | refine A.eqi rfl rfl ?_ | refine A.nei rfl rfl ?_ | refine A.lss rfl rfl ?_ | refine A.leq rfl rfl ?_ | refine A.gtr rfl rfl ?_ | refine A.geq rfl rfl ?_ | refine A.eqs rfl rfl ?_ | refine A.nes rfl rfl ?_ | refine A.lts rfl rfl ?_ | refine A.gts rfl rfl ?_
        | refine A.not rfl ?_ | refine A.extract rfl rfl ?_ | refine A.add64 rfl rfl rfl (by omega) ?_ | refine A.sub64 rfl rfl rfl (by omega) ?_
        | refine A.neT eq_step rfl rfl rfl ?_
      · refine Fin.ret1 rfl (Weak.eq ?_)
        rw [hp, stepsEq_drop h1 h2]
        have hc' : stepEq a[k] b[k] = false := by simpa using (show (!(stepEq a[k] b[k])) = true from hc)
        rw [hc']; rfl
      · have hc' : stepEq a[k] b[k] = true := by simpa using (show (!(stepEq a[k] b[k])) = false from hc)
        refine ⟨a.length - (k + 1), by omega, [(5, .int .i64 ((k + 1 : Nat) : Int)), (0, Path.enc a), (1, Path.enc b)],
          ⟨rfl, rfl, rfl, trivial⟩, by simp [belowS, AV.low, Path.enc, Step.lowL], rfl, k + 1, rfl, by omega, by rw [hp, stepsEq_drop h1 h2, hc']; rfl, rfl, rfl⟩
    · have d1 : decide ((k : Int) < (a.length : Int)) = false := by simp; omega
      repeat' first
        | refine HCode.seq ?_ | refine HCode.region rfl ?_ | refine HCode.region_draw Lay.mix rfl ?_ | refine HCode.block ?_ | refine HCode.scope ?_ | refine HCode.skip ?_ | refine HCode.exit ?_ | refine HCode.ret ?_
        | refine HCode.cond_true rfl ?_ | refine HCode.cond_false rfl ?_ | refine HCode.cond_yes rfl (by assumption) ?_ | refine HCode.cond_no rfl (by assumption) ?_ | (refine HCode.cond rfl ?_ ?_ <;> intro hc)
        | refine A.nil_seq ?_ | refine A.nil (fun _ => rfl) ?_ | refine A.yes rfl rfl ?_ | refine A.no rfl rfl ?_ | refine A.yes rfl (by assumption) ?_ | refine A.no rfl (by assumption) ?_ | (refine A.guard rfl ?_ ?_ <;> intro hc)
        | refine A.move rfl ?_ | refine A.assign rfl ?_ | refine A.load_b rfl rfl rfl rfl ?_ | refine A.load_r rfl rfl rfl ?_ | refine A.field_b rfl rfl rfl rfl rfl rfl ?_ | refine A.field_r rfl rfl rfl rfl rfl rfl ?_ | refine A.field rfl rfl rfl rfl rfl ?_
        | refine A.index_r rfl rfl rfl rfl rfl rfl (by assumption) rfl ?_ | refine A.len rfl rfl rfl (by first | rw [List.length_map] | rfl) ?_ | refine A.lens rfl rfl rfl rfl ?_
        | refine A.pick_true rfl rfl rfl ?_ | refine A.pick_false rfl rfl rfl ?_ | refine A.pick_true rfl (by assumption) rfl ?_ | refine A.pick_false rfl (by assumption) rfl ?_
        | refine A.box rfl rfl rfl ?_ | refine A.alloc rfl rfl rfl ?_ | refine A.store rfl rfl rfl rfl rfl ?_ | refine A.build rfl rfl rfl rfl ?_ | refine A.buildSlice rfl rfl rfl rfl rfl rfl rfl ?_
        | refine A.eqi rfl rfl ?_ | refine A.nei rfl rfl ?_ | refine A.lss rfl rfl ?_ | refine A.leq rfl rfl ?_ | refine A.gtr rfl rfl ?_ | refine A.geq rfl rfl ?_ | refine A.eqs rfl rfl ?_ | refine A.nes rfl rfl ?_ | refine A.lts rfl rfl ?_ | refine A.gts rfl rfl ?_
        | refine A.not rfl ?_ | refine A.extract rfl rfl ?_ | refine A.add64 rfl rfl rfl (by omega) ?_ | refine A.sub64 rfl rfl rfl (by omega) ?_
      refine Fin.ret1 rfl (Weak.eq ?_)
      rw [hp, List.drop_eq_nil_of_le (by omega), List.drop_eq_nil_of_le (by omega)]
      rfl
  · have d0 : ((a.length : Int) != (b.length : Int)) = true := by simp; omega
    repeat' first
      | refine HCode.seq ?_ | refine HCode.region rfl ?_ | refine HCode.region_draw Lay.mix rfl ?_ | refine HCode.block ?_ | refine HCode.scope ?_ | refine HCode.skip ?_ | refine HCode.exit ?_ | refine HCode.ret ?_
      | refine HCode.cond_true rfl ?_ | refine HCode.cond_false rfl ?_ | refine HCode.cond_yes rfl (by assumption) ?_ | refine HCode.cond_no rfl (by assumption) ?_ | (refine HCode.cond rfl ?_ ?_ <;> intro hc)
      | refine A.nil_seq ?_ | refine A.nil (fun _ => rfl) ?_ | refine A.yes rfl rfl ?_ | refine A.no rfl rfl ?_ | refine A.yes rfl (by assumption) ?_ | refine A.no rfl (by assumption) ?_ | (refine A.guard rfl ?_ ?_ <;> intro hc)
      | refine A.move rfl ?_ | refine A.assign rfl ?_ | refine A.load_b rfl rfl rfl rfl ?_ | refine A.load_r rfl rfl rfl ?_ | refine A.field_b rfl rfl rfl rfl rfl rfl ?_ | refine A.field_r rfl rfl rfl rfl rfl rfl ?_ | refine A.field rfl rfl rfl rfl rfl ?_
      | refine A.index_r rfl rfl rfl rfl rfl rfl (by assumption) rfl ?_ | refine A.len rfl rfl rfl (by first | rw [List.length_map] | rfl) ?_ | refine A.lens rfl rfl rfl rfl ?_
      | refine A.pick_true rfl rfl rfl ?_ | refine A.pick_false rfl rfl rfl ?_ | refine A.pick_true rfl (by assumption) rfl ?_ | refine A.pick_false rfl (by assumption) rfl ?_
      | refine A.box rfl rfl rfl ?_ | refine A.alloc rfl rfl rfl ?_ | refine A.store rfl rfl rfl rfl rfl ?_ | refine A.build rfl rfl rfl rfl ?_ | refine A.buildSlice rfl rfl rfl rfl rfl rfl rfl ?_
      | refine A.eqi rfl rfl ?_ | refine A.nei rfl rfl ?_ | refine A.lss rfl rfl ?_ | refine A.leq rfl rfl ?_ | refine A.gtr rfl rfl ?_ | refine A.geq rfl rfl ?_ | refine A.eqs rfl rfl ?_ | refine A.nes rfl rfl ?_ | refine A.lts rfl rfl ?_ | refine A.gts rfl rfl ?_
      | refine A.not rfl ?_ | refine A.extract rfl rfl ?_ | refine A.add64 rfl rfl rfl (by omega) ?_ | refine A.sub64 rfl rfl rfl (by omega) ?_
    exact Fin.ret1 rfl (Weak.eq (by rw [stepsEq_len hl]))

theorem add (p : Path) (x : Step) (hp : p.length ≤ 2097152) : PFn Try.prog 19 [Path.enc p, x.enc] (Path.enc (p ++ [x])) := by
  refine AFn.plain (by simp only [AV.closed, Path.enc, Step.closedL]; rfl) (by simp [AV.closedL, AV.closed, Path.enc, Step.closedL, Step.enc]) (AFn.enter [4] Try.func19 rfl rfl rfl rfl rfl (by decide) ?_)
  have m1 : (p.map Step.enc).length = p.length := List.length_map ..
  repeat' first
    | refine HCode.seq ?_ | refine HCode.region rfl ?_ | refine HCode.region_draw Lay.mix rfl ?_ | refine HCode.block ?_ | refine HCode.scope ?_ | refine HCode.skip ?_ | refine HCode.exit ?_ | refine HCode.ret ?_
    | refine HCode.cond_true rfl ?_ | refine HCode.cond_false rfl ?_ | refine HCode.cond_yes rfl (by assumption) ?_ | refine HCode.cond_no rfl (by assumption) ?_ | (refine HCode.cond rfl ?_ ?_ <;> intro hc)
    | refine A.nil_seq ?_ | refine A.nil (fun _ => rfl) ?_ | refine A.yes rfl rfl ?_ | refine A.no rfl rfl ?_ | refine A.yes rfl (by assumption) ?_ | refine A.no rfl (by assumption) ?_ | (refine A.guard rfl ?_ ?_ <;> intro hc)
    | refine A.move rfl ?_ | refine A.assign rfl ?_ | refine A.load_b rfl rfl rfl rfl ?_ | refine A.load_r rfl rfl rfl ?_ | refine A.field_b rfl rfl rfl rfl rfl rfl ?_ | refine A.field_r rfl rfl rfl rfl rfl rfl ?_ | refine A.field rfl rfl rfl rfl rfl ?_
    | refine A.index_r rfl rfl rfl rfl rfl rfl (by assumption) rfl ?_ | refine A.len rfl rfl rfl (by first | rw [List.length_map] | rfl) ?_ | refine A.lens rfl rfl rfl rfl ?_
    | refine A.pick_true rfl rfl rfl ?_ | refine A.pick_false rfl rfl rfl ?_ | refine A.pick_true rfl (by assumption) rfl ?_ | refine A.pick_false rfl (by assumption) rfl ?_
    | refine A.box rfl rfl rfl ?_ | refine A.alloc rfl rfl rfl ?_ | refine A.store rfl rfl rfl rfl rfl ?_ | refine A.build rfl rfl rfl rfl ?_ | refine A.buildSlice rfl rfl rfl rfl rfl rfl rfl ?_
    | refine A.eqi rfl rfl ?_ | refine A.nei rfl rfl ?_ | refine A.lss rfl rfl ?_ | refine A.leq rfl rfl ?_ | refine A.gtr rfl rfl ?_ | refine A.geq rfl rfl ?_ | refine A.eqs rfl rfl ?_ | refine A.nes rfl rfl ?_ | refine A.lts rfl rfl ?_ | refine A.gts rfl rfl ?_
    | refine A.not rfl ?_ | refine A.extract rfl rfl ?_ | refine A.add64 rfl rfl rfl (by omega) ?_ | refine A.sub64 rfl rfl rfl (by omega) ?_
    | refine A.make0 (n := p.length + 1) rfl rfl rfl rfl rfl (by omega) (by dsimp only; omega) (by omega) rfl rfl ?_
    | refine A.append (n := 0) rfl rfl rfl rfl rfl rfl rfl rfl rfl (Step.fitsAll p) (by dsimp only; omega) (by omega) rfl ?_
    | refine A.append (n := 0 + (p.map Step.enc).length) rfl rfl rfl rfl rfl rfl rfl rfl (by simp) rfl (by dsimp only [List.length_cons, List.length_nil]; omega) (by dsimp only [List.length_cons, List.length_nil]; omega) rfl ?_
  refine Fin.ret1 rfl (Weak.no ?_)
  have e : ([] ++ p.map Step.enc ++ [x.enc]) = (p ++ [x]).map Step.enc := by simp
  show WeakL _ ((p ++ [x]).map Step.enc)
  rw [← e]
  exact WeakL.refl _

theorem pathCmp_snoc (x : Step) : ∀ p : Path, pathCmp p (p ++ [x]) < 0
  | [] => by simp [pathCmp]
  | a :: p => by
    have h := pathCmp_snoc x p
    have e : stepCmp a a = 0 := by have := stepCmp_cmp.anti a a; omega
    simpa [pathCmp, e] using h
theorem isUnder_snoc (p : Path) (x : Step) : isUnder (p ++ [x]) p = true := by simp [isUnder, pathCmp_self]
theorem isUnder_long (p : Path) (x : Step) : isUnder p (p ++ [x]) = false := by
  have h : ¬ (p ++ [x]).length ≤ p.length := by simp
  rw [isUnder, decide_eq_false h, Bool.false_and]
theorem map_snoc (p : Path) (x : Step) : ((p ++ [x]).map Step.enc)[p.length]? = some x.enc := by simp
theorem len_snoc (p : Path) (x : Step) : ((((p ++ [x]).length : Nat) : Int) != (p.length : Int) + 1) = false := by simp

theorem pathAdds (p : Path) (x y : Step) (hp : p.length ≤ 1048576) (hx : x.name.length ≤ 1048576) (hy : y.name.length ≤ 1048576) :
    PFn Try.prog 4 [Path.enc p, x.enc, y.enc] (.bool true) := by
  refine AFn.plain rfl (by simp [AV.closedL, AV.closed, Path.enc, Step.closedL, Step.enc]) (AFn.enter [6] Try.func4 rfl rfl rfl rfl rfl (by decide) ?_)
  have s1 := small p (by omega)
  have a1 := add p x (by omega)
  have a2 := add p y (by omega)
  have m1 : (p.map Step.enc).length = p.length := List.length_map ..
  have m2 : ([] ++ p.map Step.enc).length = p.length := by simp
  have m3 : ([] ++ p.map Step.enc ++ [AV.agg [AV.str [109, 97, 114, 107], AV.int .i64 0]]).length = p.length + 1 := by simp
  have hv : Weak (.view ([] ++ p.map Step.enc ++ [AV.agg [AV.str [109, 97, 114, 107], AV.int .i64 0]]) p.length) (Path.enc p) := by
    have h := @Weak.view ([] ++ p.map Step.enc ++ [AV.agg [AV.str [109, 97, 114, 107], AV.int .i64 0]]) p.length
    have e : ([] ++ p.map Step.enc ++ [AV.agg [AV.str [109, 97, 114, 107], AV.int .i64 0]]).take p.length = p.map Step.enc := by
      rw [List.nil_append, List.take_left' m1]
    rw [e] at h
    exact h
  have xm : ([] ++ p.map Step.enc ++ [AV.agg [AV.str [109, 97, 114, 107], AV.int .i64 0]])[p.length]? = some (AV.agg [AV.str [109, 97, 114, 107], AV.int .i64 0]) := by simp
  have c1 := len_snoc p x
  have c2 := len_snoc p y
  have x1 := map_snoc p x
  have x2 := map_snoc p y
  have q1 : (!(x.name == x.name && (x.at_ == x.at_ && true))) = false := by simp
  have q2 : (!(y.name == y.name && (y.at_ == y.at_ && true))) = false := by simp
  have s2 : PFn Try.prog 20 [Path.enc ((p ++ [x]).take p.length), Path.enc p] (.bool true) := by
    have h := sameSteps ((p ++ [x]).take p.length) p (by simp; omega)
    rw [show stepsEq ((p ++ [x]).take p.length) p = true by rw [List.take_left' rfl]; exact stepsEq_self p] at h
    exact h
  have u1 : PFn Try.prog 18 [Path.enc (p ++ [x]), Path.enc p] (.bool true) := isUnder_snoc p x ▸ under (p ++ [x]) p (by simp; omega)
  have l1 : PFn Try.prog 16 [Path.enc p, Path.enc (p ++ [x])] (.bool true) := by
    have h := less p (p ++ [x]) (by omega)
    rw [show decide (pathCmp p (p ++ [x]) < 0) = true from decide_eq_true (pathCmp_snoc x p)] at h
    exact h
  have u2 : PFn Try.prog 18 [Path.enc p, Path.enc (p ++ [x])] (.bool false) := isUnder_long p x ▸ under p (p ++ [x]) (by omega)
  have lx : (p ++ [x]).length = p.length + 1 := by simp
  repeat' first
    | refine HCode.seq ?_ | refine HCode.region rfl ?_ | refine HCode.region_draw Lay.mix rfl ?_ | refine HCode.block ?_ | refine HCode.scope ?_ | refine HCode.skip ?_ | refine HCode.exit ?_ | refine HCode.ret ?_
    | refine HCode.cond_true rfl ?_ | refine HCode.cond_false rfl ?_ | refine HCode.cond_yes rfl (by assumption) ?_ | refine HCode.cond_no rfl (by assumption) ?_ | (refine HCode.cond rfl ?_ ?_ <;> intro hc)
    | refine A.nil_seq ?_ | refine A.nil (fun _ => rfl) ?_ | refine A.yes rfl rfl ?_ | refine A.no rfl rfl ?_ | refine A.yes rfl (by assumption) ?_ | refine A.no rfl (by assumption) ?_ | (refine A.guard rfl ?_ ?_ <;> intro hc)
    | refine A.move rfl ?_ | refine A.assign rfl ?_ | refine A.load_b rfl rfl rfl rfl ?_ | refine A.load_r rfl rfl rfl ?_ | refine A.field_b rfl rfl rfl rfl rfl rfl ?_ | refine A.field_r rfl rfl rfl rfl rfl rfl ?_ | refine A.field rfl rfl rfl rfl rfl ?_
    | refine A.index_r rfl rfl rfl rfl rfl rfl (by assumption) rfl ?_ | refine A.len rfl rfl rfl (by first | rw [List.length_map] | rfl) ?_ | refine A.lens rfl rfl rfl rfl ?_
    | refine A.pick_true rfl rfl rfl ?_ | refine A.pick_false rfl rfl rfl ?_ | refine A.pick_true rfl (by assumption) rfl ?_ | refine A.pick_false rfl (by assumption) rfl ?_
    | refine A.box rfl rfl rfl ?_ | refine A.alloc rfl rfl rfl ?_ | refine A.store rfl rfl rfl rfl rfl ?_ | refine A.build rfl rfl rfl rfl ?_ | refine A.buildSlice rfl rfl rfl rfl rfl rfl rfl ?_
    | refine A.eqi rfl rfl ?_ | refine A.nei rfl rfl ?_ | refine A.lss rfl rfl ?_ | refine A.leq rfl rfl ?_ | refine A.gtr rfl rfl ?_ | refine A.geq rfl rfl ?_ | refine A.eqs rfl rfl ?_ | refine A.nes rfl rfl ?_ | refine A.lts rfl rfl ?_ | refine A.gts rfl rfl ?_
    | refine A.not rfl ?_ | refine A.extract rfl rfl ?_ | refine A.add64 rfl rfl rfl (by omega) ?_ | refine A.sub64 rfl rfl rfl (by omega) ?_
    | refine A.call rfl s1 (WeakL.refl _) ?_ | refine A.call rfl a1 (WeakL.cons hv (WeakL.refl _)) ?_ | refine A.call rfl a2 (WeakL.cons hv (WeakL.refl _)) ?_
    | refine A.call rfl u1 (WeakL.refl _) ?_ | refine A.call rfl l1 (WeakL.refl _) ?_ | refine A.call rfl u2 (WeakL.refl _) ?_ | refine A.call rfl awake (WeakL.refl _) ?_
    | refine A.call rfl s2 (WeakL.cons (Weak.eq (Path.enc_take (p ++ [x]) p.length)) (WeakL.refl _)) ?_
    | refine A.make0 (n := p.length + 2) rfl rfl rfl rfl rfl (by omega) (by dsimp only; omega) (by omega) rfl rfl ?_
    | refine A.append (n := 0) rfl rfl rfl rfl rfl rfl rfl rfl rfl (Step.fitsAll p) (by dsimp only; omega) (by omega) rfl ?_
    | refine A.append (n := 0 + (p.map Step.enc).length) rfl rfl rfl rfl rfl rfl rfl rfl (by simp) rfl (by dsimp only [List.length_cons, List.length_nil]; omega) (by dsimp only [List.length_cons, List.length_nil]; omega) rfl ?_
    | refine A.view_slice (p.length + 1) rfl rfl rfl rfl rfl rfl (by omega) ?_
    | refine A.index_v rfl rfl rfl rfl rfl rfl (Nat.lt_succ_self _) (by assumption) rfl ?_
    | refine A.slice_v p.length rfl rfl rfl rfl rfl rfl (by omega) ?_
    | refine A.slice 0 p.length rfl rfl rfl rfl rfl rfl rfl rfl (Nat.zero_le _) (by rw [List.length_map]; omega) (.inl rfl) ?_
    | refine A.neT eq_step rfl rfl rfl ?_
  all_goals exact Fin.ret1 rfl (Weak.refl _)
end Go.Proofs.Ytaapdhocpadjaaa
