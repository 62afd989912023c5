/-
  The package path: comparing whole paths.
-/
import Derived.Test.YtajddgpkflbnaaaMPath
namespace Go.Proofs.Ytajddgpkflbnaaa
open Go Go.Av
set_option maxRecDepth 100000
set_option linter.unusedVariables false
attribute [local irreducible] HCode AOps PFn AFn Av.Step TStep

theorem Step.low (n m : Nat) (a : Step) : a.enc.low n m = true := AV.low_of_closed n m _ (Step.closed a)
theorem Step.lowL (n m : Nat) (l : List Step) : AV.lowL n m (l.map Step.enc) = true := AV.lowL_of_closed n m _ (Step.closedL l)
theorem map_get {α : Type} {f : α → AV} {l : List α} {k : Nat} (h : k < l.length) : (l.map f)[k]? = some (f l[k]) := by simp [h]

theorem pathCmp_step {a b : Path} {k : Nat} (h1 : k < a.length) (h2 : k < b.length) (h : stepCmp a[k] b[k] = 0) : pathCmp (a.drop k) (b.drop k) = pathCmp (a.drop (k + 1)) (b.drop (k + 1)) := by
  rw [List.drop_eq_getElem_cons h1, List.drop_eq_getElem_cons h2, pathCmp, h]
  rfl
theorem pathCmp_ne {a b : Path} {k : Nat} (h1 : k < a.length) (h2 : k < b.length) (h : stepCmp a[k] b[k] ≠ 0) : pathCmp (a.drop k) (b.drop k) = stepCmp a[k] b[k] := by
  rw [List.drop_eq_getElem_cons h1, List.drop_eq_getElem_cons h2, pathCmp, if_pos (by simpa using h)]
theorem pathCmp_end {a b : Path} {k : Nat} (h1 : k < a.length) (h2 : b.length ≤ k) : pathCmp (a.drop k) (b.drop k) = 1 := by
  rw [List.drop_eq_getElem_cons h1, List.drop_eq_nil_of_le h2, pathCmp]

theorem compareFunc (a b : Path) (ha : a.length ≤ 9223372036854775807) : PFn Try.prog 73 [Path.enc a, Path.enc b, .fn (.func 74) [] []] (.int .i64 (pathCmp a b)) := by
  refine AFn.plain rfl (by simp [AV.closedL, AV.closed, Path.enc, Step.closedL]) (AFn.enter [6] Try.func73 rfl rfl rfl rfl rfl (by decide) ?_)
  repeat' first
    | refine HCode.seq ?_ | refine HCode.region rfl ?_ | refine HCode.region_draw Lay.mix rfl ?_ | refine HCode.block ?_ | refine HCode.scope ?_ | refine HCode.skip ?_ | refine HCode.label ?_ | refine HCode.exit ?_ | refine HCode.ret ?_
    | refine HCode.cond_true rfl ?_ | refine HCode.cond_false rfl ?_ | refine HCode.cond_yes rfl (by assumption) ?_ | refine HCode.cond_no rfl (by assumption) ?_ | (refine HCode.cond rfl ?_ ?_ <;> intro hc)
    | refine A.nil_seq ?_ | refine A.nil (fun _ => rfl) ?_ | refine A.dead rfl ?_ | refine A.yes rfl rfl ?_ | refine A.no rfl rfl ?_ | refine A.yes rfl (by assumption) ?_ | refine A.no rfl (by assumption) ?_ | (refine A.guard rfl ?_ ?_ <;> intro hc)
    | refine A.move rfl ?_ | refine A.assign rfl ?_ | refine A.load_b rfl rfl rfl rfl ?_ | refine A.load_r rfl rfl rfl ?_ | refine A.field_b rfl rfl rfl rfl rfl rfl ?_ | refine A.field_r rfl rfl rfl rfl rfl rfl ?_ | refine A.field rfl rfl rfl rfl rfl ?_
    | refine A.index_r rfl rfl rfl rfl rfl rfl (by assumption) rfl ?_ | refine A.len rfl rfl rfl (by first | rw [List.length_map] | rfl) ?_ | refine A.lens rfl rfl rfl rfl ?_
    | refine A.pick_true rfl rfl rfl ?_ | refine A.pick_false rfl rfl rfl ?_ | refine A.pick_true rfl (by assumption) rfl ?_ | refine A.pick_false rfl (by assumption) rfl ?_
    | refine A.box rfl rfl rfl ?_ | refine A.alloc rfl rfl rfl ?_ | refine A.store rfl rfl rfl rfl rfl ?_ | refine A.build rfl rfl rfl rfl ?_ | refine A.buildSlice rfl rfl rfl rfl rfl rfl rfl ?_
    | refine A.eqi rfl rfl ?_ | refine A.nei rfl rfl ?_ | refine A.lss rfl rfl ?_ | refine A.leq rfl rfl ?_ | refine A.gtr rfl rfl ?_ | refine A.geq rfl rfl ?_ | refine A.eqb rfl rfl rfl rfl ?_ | refine A.neb rfl rfl rfl rfl ?_ | refine A.eqs rfl rfl ?_ | refine A.nes rfl rfl ?_ | refine A.lts rfl rfl ?_ | refine A.gts rfl rfl ?_
    | refine A.not rfl ?_ | refine A.extract rfl rfl ?_ | refine A.add64 rfl rfl rfl (by omega) ?_ | refine A.sub64 rfl rfl rfl (by omega) ?_
  change HCode _ _ _ _ _ _ _
  refine HCode.loop (fun n s σ => ∃ k : Nat, n = a.length - k ∧ k ≤ a.length ∧ k ≤ b.length ∧ pathCmp a b = pathCmp (a.drop k) (b.drop k) ∧ σ = ⟨[], []⟩ ∧
    s = [(13, .int .i64 k), (12, .int .i64 a.length), (11, Path.enc a), (0, Path.enc a), (1, Path.enc b), (2, .fn (.func 74) [] [])])
    (s0 := [(13, .int .i64 (0 : Nat)), (12, .int .i64 a.length), (11, Path.enc a), (0, Path.enc a), (1, Path.enc b), (2, .fn (.func 74) [] [])])
    ⟨rfl, rfl, rfl, rfl, rfl, rfl, trivial⟩ ⟨0, rfl, Nat.zero_le _, Nat.zero_le _, rfl, rfl, rfl⟩ ?_
  rintro n s σ ⟨k, rfl, hk, hkb, hp, rfl, rfl⟩
  by_cases h1 : k < a.length
  · have d1 : decide ((k : Int) < (a.length : Int)) = true := by simp [h1]
    have x1 := map_get (f := Step.enc) h1
    by_cases h2 : k < b.length
    · have d2 : decide ((b.length : Int) ≤ (k : Int)) = false := by simp [h2]
      have x2 := map_get (f := Step.enc) h2
      have hcc := compare a[k] b[k]
      repeat' first
        | refine HCode.seq ?_ | refine HCode.region rfl ?_ | refine HCode.region_draw Lay.mix rfl ?_ | refine HCode.block ?_ | refine HCode.scope ?_ | refine HCode.skip ?_ | refine HCode.label ?_ | refine HCode.exit ?_ | refine HCode.ret ?_
        | refine HCode.cond_true rfl ?_ | refine HCode.cond_false rfl ?_ | refine HCode.cond_yes rfl (by assumption) ?_ | refine HCode.cond_no rfl (by assumption) ?_ | (refine HCode.cond rfl ?_ ?_ <;> intro hc)
        | refine A.nil_seq ?_ | refine A.nil (fun _ => rfl) ?_ | refine A.dead rfl ?_ | refine A.yes rfl rfl ?_ | refine A.no rfl rfl ?_ | refine A.yes rfl (by assumption) ?_ | refine A.no rfl (by assumption) ?_ | (refine A.guard rfl ?_ ?_ <;> intro hc)
        | refine A.move rfl ?_ | refine A.assign rfl ?_ | refine A.load_b rfl rfl rfl rfl ?_ | refine A.load_r rfl rfl rfl ?_ | refine A.field_b rfl rfl rfl rfl rfl rfl ?_ | refine A.field_r rfl rfl rfl rfl rfl rfl ?_ | refine A.field rfl rfl rfl rfl rfl ?_
        | refine A.index_r rfl rfl rfl rfl rfl rfl (by assumption) rfl ?_ | refine A.len rfl rfl rfl (by first | rw [List.length_map] | rfl) ?_ | refine A.lens rfl rfl rfl rfl ?_
        | refine A.pick_true rfl rfl rfl ?_ | refine A.pick_false rfl rfl rfl ?_ | refine A.pick_true rfl (by assumption) rfl ?_ | refine A.pick_false rfl (by assumption) rfl ?_
        | refine A.box rfl rfl rfl ?_ | refine A.alloc rfl rfl rfl ?_ | refine A.store rfl rfl rfl rfl rfl ?_ | refine A.build rfl rfl rfl rfl ?_ | refine A.buildSlice rfl rfl rfl rfl rfl rfl rfl ?_
        | refine A.eqi rfl rfl ?_ | refine A.nei rfl rfl ?_ | refine A.lss rfl rfl ?_ | refine A.leq rfl rfl ?_ | refine A.gtr rfl rfl ?_ | refine A.geq rfl rfl ?_ | refine A.eqb rfl rfl rfl rfl ?_ | refine A.neb rfl rfl rfl rfl ?_ | refine A.eqs rfl rfl ?_ | refine A.nes rfl rfl ?_ | refine A.lts rfl rfl ?_ | refine A.gts rfl rfl ?_
        | refine A.not rfl ?_ | refine A.extract rfl rfl ?_ | refine A.add64 rfl rfl rfl (by omega) ?_ | refine A.sub64 rfl rfl rfl (by omega) ?_
        | refine A.callv rfl rfl hcc (WeakL.refl _) ?_
      · have hne : stepCmp a[k] b[k] ≠ 0 := by simpa using hc
        refine Fin.ret1 rfl (Weak.eq ?_)
        rw [hp, pathCmp_ne h1 h2 hne]
      · have heq : stepCmp a[k] b[k] = 0 := by simpa using hc
        refine ⟨a.length - (k + 1), by omega, [(13, .int .i64 ((k + 1 : Nat) : Int)), (12, .int .i64 a.length), (11, Path.enc a), (0, Path.enc a), (1, Path.enc b), (2, .fn (.func 74) [] [])],
          ⟨rfl, rfl, rfl, rfl, rfl, rfl, trivial⟩, by simp [belowS, AV.low, AV.lowL, Path.enc, Step.lowL], rfl, k + 1, rfl, by omega, by omega, by rw [hp, pathCmp_step h1 h2 heq], rfl, rfl⟩
    · have d2 : decide ((b.length : Int) ≤ (k : Int)) = true := by simp; omega
      repeat' first
        | refine HCode.seq ?_ | refine HCode.region rfl ?_ | refine HCode.region_draw Lay.mix rfl ?_ | refine HCode.block ?_ | refine HCode.scope ?_ | refine HCode.skip ?_ | refine HCode.label ?_ | refine HCode.exit ?_ | refine HCode.ret ?_
        | refine HCode.cond_true rfl ?_ | refine HCode.cond_false rfl ?_ | refine HCode.cond_yes rfl (by assumption) ?_ | refine HCode.cond_no rfl (by assumption) ?_ | (refine HCode.cond rfl ?_ ?_ <;> intro hc)
        | refine A.nil_seq ?_ | refine A.nil (fun _ => rfl) ?_ | refine A.dead rfl ?_ | refine A.yes rfl rfl ?_ | refine A.no rfl rfl ?_ | refine A.yes rfl (by assumption) ?_ | refine A.no rfl (by assumption) ?_ | (refine A.guard rfl ?_ ?_ <;> intro hc)
        | refine A.move rfl ?_ | refine A.assign rfl ?_ | refine A.load_b rfl rfl rfl rfl ?_ | refine A.load_r rfl rfl rfl ?_ | refine A.field_b rfl rfl rfl rfl rfl rfl ?_ | refine A.field_r rfl rfl rfl rfl rfl rfl ?_ | refine A.field rfl rfl rfl rfl rfl ?_
        | refine A.index_r rfl rfl rfl rfl rfl rfl (by assumption) rfl ?_ | refine A.len rfl rfl rfl (by first | rw [List.length_map] | rfl) ?_ | refine A.lens rfl rfl rfl rfl ?_
        | refine A.pick_true rfl rfl rfl ?_ | refine A.pick_false rfl rfl rfl ?_ | refine A.pick_true rfl (by assumption) rfl ?_ | refine A.pick_false rfl (by assumption) rfl ?_
        | refine A.box rfl rfl rfl ?_ | refine A.alloc rfl rfl rfl ?_ | refine A.store rfl rfl rfl rfl rfl ?_ | refine A.build rfl rfl rfl rfl ?_ | refine A.buildSlice rfl rfl rfl rfl rfl rfl rfl ?_
        | refine A.eqi rfl rfl ?_ | refine A.nei rfl rfl ?_ | refine A.lss rfl rfl ?_ | refine A.leq rfl rfl ?_ | refine A.gtr rfl rfl ?_ | refine A.geq rfl rfl ?_ | refine A.eqb rfl rfl rfl rfl ?_ | refine A.neb rfl rfl rfl rfl ?_ | refine A.eqs rfl rfl ?_ | refine A.nes rfl rfl ?_ | refine A.lts rfl rfl ?_ | refine A.gts rfl rfl ?_
        | refine A.not rfl ?_ | refine A.extract rfl rfl ?_ | refine A.add64 rfl rfl rfl (by omega) ?_ | refine A.sub64 rfl rfl rfl (by omega) ?_
      refine Fin.ret1 rfl (Weak.eq ?_)
      rw [hp, pathCmp_end h1 (by omega)]
  · have d1 : decide ((k : Int) < (a.length : Int)) = false := by simp; omega
    have hka : k = a.length := by omega
    repeat' first
      | refine HCode.seq ?_ | refine HCode.region rfl ?_ | refine HCode.region_draw Lay.mix rfl ?_ | refine HCode.block ?_ | refine HCode.scope ?_ | refine HCode.skip ?_ | refine HCode.label ?_ | refine HCode.exit ?_ | refine HCode.ret ?_
      | refine HCode.cond_true rfl ?_ | refine HCode.cond_false rfl ?_ | refine HCode.cond_yes rfl (by assumption) ?_ | refine HCode.cond_no rfl (by assumption) ?_ | (refine HCode.cond rfl ?_ ?_ <;> intro hc)
      | refine A.nil_seq ?_ | refine A.nil (fun _ => rfl) ?_ | refine A.dead rfl ?_ | refine A.yes rfl rfl ?_ | refine A.no rfl rfl ?_ | refine A.yes rfl (by assumption) ?_ | refine A.no rfl (by assumption) ?_ | (refine A.guard rfl ?_ ?_ <;> intro hc)
      | refine A.move rfl ?_ | refine A.assign rfl ?_ | refine A.load_b rfl rfl rfl rfl ?_ | refine A.load_r rfl rfl rfl ?_ | refine A.field_b rfl rfl rfl rfl rfl rfl ?_ | refine A.field_r rfl rfl rfl rfl rfl rfl ?_ | refine A.field rfl rfl rfl rfl rfl ?_
      | refine A.index_r rfl rfl rfl rfl rfl rfl (by assumption) rfl ?_ | refine A.len rfl rfl rfl (by first | rw [List.length_map] | rfl) ?_ | refine A.lens rfl rfl rfl rfl ?_
      | refine A.pick_true rfl rfl rfl ?_ | refine A.pick_false rfl rfl rfl ?_ | refine A.pick_true rfl (by assumption) rfl ?_ | refine A.pick_false rfl (by assumption) rfl ?_
      | refine A.box rfl rfl rfl ?_ | refine A.alloc rfl rfl rfl ?_ | refine A.store rfl rfl rfl rfl rfl ?_ | refine A.build rfl rfl rfl rfl ?_ | refine A.buildSlice rfl rfl rfl rfl rfl rfl rfl ?_
      | refine A.eqi rfl rfl ?_ | refine A.nei rfl rfl ?_ | refine A.lss rfl rfl ?_ | refine A.leq rfl rfl ?_ | refine A.gtr rfl rfl ?_ | refine A.geq rfl rfl ?_ | refine A.eqb rfl rfl rfl rfl ?_ | refine A.neb rfl rfl rfl rfl ?_ | refine A.eqs rfl rfl ?_ | refine A.nes rfl rfl ?_ | refine A.lts rfl rfl ?_ | refine A.gts rfl rfl ?_
      | refine A.not rfl ?_ | refine A.extract rfl rfl ?_ | refine A.add64 rfl rfl rfl (by omega) ?_ | refine A.sub64 rfl rfl rfl (by omega) ?_
    all_goals refine Fin.ret1 rfl (Weak.eq ?_)
    all_goals rw [hp, hka, List.drop_length]
    · have hlt : a.length < b.length := by simpa using hc
      rw [List.drop_eq_getElem_cons hlt, pathCmp]
    · have hge : b.length ≤ a.length := by simpa using hc
      rw [List.drop_eq_nil_of_le hge, pathCmp]
end Go.Proofs.Ytajddgpkflbnaaa
