/-
  The library's stable sort of faults: merging; the general case.
-/
import Derived.Test.YtajddgpkflbnaaaMSortY
namespace Go.Proofs.Ytajddgpkflbnaaa
open Go Go.Av
set_option maxRecDepth 100000
set_option maxHeartbeats 8000000
set_option linter.unusedVariables false
set_option linter.unusedSimpArgs false
attribute [local irreducible] HCode AOps PFn AFn Av.Step TStep


/-- Code without its first n parts. -/
def tailOf : Nat → Code → Code
  | 0, c => c
  | n + 1, .seq _ y => tailOf n y
  | _ + 1, c => c
/-- A piece of code, walked by itself. -/
theorem HCode.cut {P : Program} {N : Nat} {D : List Deferred} {x y : Code} {K : AX → Slots → St → Prop} {s : Slots} {σ : St} (s1 : Slots) (σ1 : St) (h : HCode P N D x (fun e s' σ' => e = .normal ∧ Sub s1 s' ∧ σ' = σ1) s σ) (k : HCode P N D y K s1 σ1) : HCode P N D (.seq x y) K s σ :=
  HCode.seq (h.mono fun e s' σ' ⟨he, hs, hσ⟩ => by subst he; subst hσ; exact k.weaken hs)
def bodyOf (f : Func) : Code := f.body.getD .skip

theorem smTail (N : Nat) (hN' : N ≤ 1048576) (xs xs1 : List Flt) (a m b mid i : Nat) (hmN : mid + m ≤ 4 * N) (him : i ≤ mid + m) (hbN : b ≤ N) (hsame : ¬(i < m ∧ m < mid + m - i) → xs1 = xs)
    (hrot : i < m → m < mid + m - i → AFn Try.prog 104 [.vec 0 2 N 0 N, .int .i64 (i : Nat), .int .i64 m, .int .i64 (mid + m - i : Nat), fcl] ⟨[], [.vec (xs.map Flt.enc)]⟩ (fun e σ => e = .ret (.tup []) ∧ σ = ⟨[], [.vec (xs1.map Flt.enc)]⟩))
    (hr1 : a < i → i < mid → AFn Try.prog 99 [.vec 0 2 N 0 N, .int .i64 a, .int .i64 (i : Nat), .int .i64 mid, fcl] ⟨[], [.vec (xs1.map Flt.enc)]⟩ (fun e σ => e = .ret (.tup []) ∧ σ = ⟨[], [.vec ((segSort fltCmp a mid xs1).map Flt.enc)]⟩))
    (hr2 : mid < mid + m - i → mid + m - i < b → AFn Try.prog 99 [.vec 0 2 N 0 N, .int .i64 mid, .int .i64 (mid + m - i : Nat), .int .i64 b, fcl] ⟨[], [.vec ((segSort fltCmp a mid xs1).map Flt.enc)]⟩
      (fun e σ => e = .ret (.tup []) ∧ σ = ⟨[], [.vec ((segSort fltCmp mid b (segSort fltCmp a mid xs1)).map Flt.enc)]⟩))
    (f2 : ¬(a < i ∧ i < mid) → segSort fltCmp a mid xs1 = xs1) (f3 : ¬(mid < mid + m - i ∧ mid + m - i < b) → segSort fltCmp mid b (segSort fltCmp a mid xs1) = segSort fltCmp a mid xs1) :
    HCode Try.prog Try.f99.ntmps [] (tailOf 8 (bodyOf Try.f99)) (fin [] (fun e σ => e = .ret (.tup []) ∧ σ = ⟨[], [.vec ((segSort fltCmp mid b (segSort fltCmp a mid xs1)).map Flt.enc)]⟩))
      [(20, .int .i64 (i : Nat)), (19, .int .i64 (mid + m : Nat)), (18, .int .i64 mid), (0, .vec 0 2 N 0 N), (1, .int .i64 a), (2, .int .i64 m), (3, .int .i64 b), (4, fcl)] ⟨[], [.vec (xs.map Flt.enc)]⟩ := by
  have hsub : ((mid + m : Nat) : Int) - ((i : Nat) : Int) = ((mid + m - i : Nat) : Int) := by omega
  refine HCode.cut [(24, .int .i64 (mid + m - i : Nat)), (20, .int .i64 (i : Nat)), (18, .int .i64 mid), (0, .vec 0 2 N 0 N), (1, .int .i64 a), (2, .int .i64 m), (3, .int .i64 b), (4, fcl)] ⟨[], [.vec (xs.map Flt.enc)]⟩ ?_ ?_
  · repeat' first
      | refine A.sub64 (r := ((mid + m - i : Nat) : Int)) rfl rfl hsub (by omega) ?_
      | refine HCode.seq ?_ | refine HCode.region rfl ?_ | refine HCode.region_draw Lay.mix rfl ?_ | refine HCode.block ?_ | refine HCode.scope ?_ | refine HCode.skip ?_ | refine HCode.label ?_ | refine HCode.exit ?_ | refine HCode.ret ?_
      | refine HCode.cond_true rfl ?_ | refine HCode.cond_false rfl ?_ | refine HCode.cond_yes rfl (by assumption) ?_ | refine HCode.cond_no rfl (by assumption) ?_ | (refine HCode.cond rfl ?_ ?_ <;> intro hc)
      | refine A.nil_seq ?_ | refine A.nil (fun _ => rfl) ?_ | refine A.dead rfl ?_ | refine A.yes rfl rfl ?_ | refine A.no rfl rfl ?_ | refine A.yes rfl (by assumption) ?_ | refine A.no rfl (by assumption) ?_ | (refine A.guard rfl ?_ ?_ <;> intro hc)
      | refine A.move rfl ?_ | refine A.assign rfl ?_ | refine A.load_b rfl rfl rfl rfl ?_ | refine A.load_r rfl rfl rfl ?_ | refine A.field_b rfl rfl rfl rfl rfl rfl ?_ | refine A.field_r rfl rfl rfl rfl rfl rfl ?_ | refine A.field rfl rfl rfl rfl rfl ?_
      | refine A.index_r rfl rfl rfl rfl rfl rfl (by assumption) rfl ?_ | refine A.len rfl rfl rfl (by first | rw [List.length_map] | rfl) ?_ | refine A.lens rfl rfl rfl rfl ?_
      | refine A.pick_true rfl rfl rfl ?_ | refine A.pick_false rfl rfl rfl ?_ | refine A.pick_true rfl (by assumption) rfl ?_ | refine A.pick_false rfl (by assumption) rfl ?_
      | refine A.box rfl rfl rfl ?_ | refine A.alloc rfl rfl rfl ?_ | refine A.store rfl rfl rfl rfl rfl ?_ | refine A.build rfl rfl rfl rfl ?_ | refine A.buildSlice rfl rfl rfl rfl rfl rfl rfl ?_
      | refine A.eqi rfl rfl ?_ | refine A.nei rfl rfl ?_ | refine A.lss rfl rfl ?_ | refine A.leq rfl rfl ?_ | refine A.gtr rfl rfl ?_ | refine A.geq rfl rfl ?_ | refine A.eqb rfl rfl rfl rfl ?_ | refine A.neb rfl rfl rfl rfl ?_ | refine A.eqs rfl rfl ?_ | refine A.nes rfl rfl ?_ | refine A.lts rfl rfl ?_ | refine A.gts rfl rfl ?_
      | refine A.not rfl ?_ | refine A.extract rfl rfl ?_ | refine A.add64 rfl rfl rfl (by omega) ?_ | refine A.sub64 rfl rfl rfl (by omega) ?_
    exact ⟨rfl, ⟨rfl, rfl, rfl, rfl, rfl, rfl, rfl, rfl, trivial⟩, rfl⟩
  refine HCode.cut [(24, .int .i64 (mid + m - i : Nat)), (20, .int .i64 (i : Nat)), (18, .int .i64 mid), (0, .vec 0 2 N 0 N), (1, .int .i64 a), (2, .int .i64 m), (3, .int .i64 b), (4, fcl)] ⟨[], [.vec (xs1.map Flt.enc)]⟩ ?_ ?_
  · by_cases k1 : i < m ∧ m < mid + m - i
    · have r1 := hrot k1.1 k1.2
      have e1 : decide ((i : Int) < (m : Int)) = true := by simp; omega
      have e2 : decide ((m : Int) < ((mid + m - i : Nat) : Int)) = true := by simp; omega
      repeat' first
        | refine HCode.seq ?_ | refine HCode.region rfl ?_ | refine HCode.region_draw Lay.mix rfl ?_ | refine HCode.block ?_ | refine HCode.scope ?_ | refine HCode.skip ?_ | refine HCode.label ?_ | refine HCode.exit ?_ | refine HCode.ret ?_
        | refine HCode.cond_true rfl ?_ | refine HCode.cond_false rfl ?_ | refine HCode.cond_yes rfl (by assumption) ?_ | refine HCode.cond_no rfl (by assumption) ?_ | (refine HCode.cond rfl ?_ ?_ <;> intro hc)
        | refine A.nil_seq ?_ | refine A.nil (fun _ => rfl) ?_ | refine A.dead rfl ?_ | refine A.yes rfl rfl ?_ | refine A.no rfl rfl ?_ | refine A.yes rfl (by assumption) ?_ | refine A.no rfl (by assumption) ?_ | (refine A.guard rfl ?_ ?_ <;> intro hc)
        | refine A.move rfl ?_ | refine A.assign rfl ?_ | refine A.load_b rfl rfl rfl rfl ?_ | refine A.load_r rfl rfl rfl ?_ | refine A.field_b rfl rfl rfl rfl rfl rfl ?_ | refine A.field_r rfl rfl rfl rfl rfl rfl ?_ | refine A.field rfl rfl rfl rfl rfl ?_
        | refine A.index_r rfl rfl rfl rfl rfl rfl (by assumption) rfl ?_ | refine A.len rfl rfl rfl (by first | rw [List.length_map] | rfl) ?_ | refine A.lens rfl rfl rfl rfl ?_
        | refine A.pick_true rfl rfl rfl ?_ | refine A.pick_false rfl rfl rfl ?_ | refine A.pick_true rfl (by assumption) rfl ?_ | refine A.pick_false rfl (by assumption) rfl ?_
        | refine A.box rfl rfl rfl ?_ | refine A.alloc rfl rfl rfl ?_ | refine A.store rfl rfl rfl rfl rfl ?_ | refine A.build rfl rfl rfl rfl ?_ | refine A.buildSlice rfl rfl rfl rfl rfl rfl rfl ?_
        | refine A.eqi rfl rfl ?_ | refine A.nei rfl rfl ?_ | refine A.lss rfl rfl ?_ | refine A.leq rfl rfl ?_ | refine A.gtr rfl rfl ?_ | refine A.geq rfl rfl ?_ | refine A.eqb rfl rfl rfl rfl ?_ | refine A.neb rfl rfl rfl rfl ?_ | refine A.eqs rfl rfl ?_ | refine A.nes rfl rfl ?_ | refine A.lts rfl rfl ?_ | refine A.gts rfl rfl ?_
        | refine A.not rfl ?_ | refine A.extract rfl rfl ?_ | refine A.add64 rfl rfl rfl (by omega) ?_ | refine A.sub64 rfl rfl rfl (by omega) ?_
        | refine A.callV 0 rfl r1 rfl rfl (Flt.closedL _) (Flt.closedL _) rfl (WeakL.refl _) rfl rfl ?_
      exact ⟨rfl, ⟨rfl, rfl, rfl, rfl, rfl, rfl, rfl, rfl, trivial⟩, rfl⟩
    · have e0 := hsame k1
      subst e0
      repeat' first
        | refine HCode.seq ?_ | refine HCode.region rfl ?_ | refine HCode.region_draw Lay.mix rfl ?_ | refine HCode.block ?_ | refine HCode.scope ?_ | refine HCode.skip ?_ | refine HCode.label ?_ | refine HCode.exit ?_ | refine HCode.ret ?_
        | refine HCode.cond_true rfl ?_ | refine HCode.cond_false rfl ?_ | refine HCode.cond_yes rfl (by assumption) ?_ | refine HCode.cond_no rfl (by assumption) ?_ | (refine HCode.cond rfl ?_ ?_ <;> intro hc)
        | refine A.nil_seq ?_ | refine A.nil (fun _ => rfl) ?_ | refine A.dead rfl ?_ | refine A.yes rfl rfl ?_ | refine A.no rfl rfl ?_ | refine A.yes rfl (by assumption) ?_ | refine A.no rfl (by assumption) ?_ | (refine A.guard rfl ?_ ?_ <;> intro hc)
        | refine A.move rfl ?_ | refine A.assign rfl ?_ | refine A.load_b rfl rfl rfl rfl ?_ | refine A.load_r rfl rfl rfl ?_ | refine A.field_b rfl rfl rfl rfl rfl rfl ?_ | refine A.field_r rfl rfl rfl rfl rfl rfl ?_ | refine A.field rfl rfl rfl rfl rfl ?_
        | refine A.index_r rfl rfl rfl rfl rfl rfl (by assumption) rfl ?_ | refine A.len rfl rfl rfl (by first | rw [List.length_map] | rfl) ?_ | refine A.lens rfl rfl rfl rfl ?_
        | refine A.pick_true rfl rfl rfl ?_ | refine A.pick_false rfl rfl rfl ?_ | refine A.pick_true rfl (by assumption) rfl ?_ | refine A.pick_false rfl (by assumption) rfl ?_
        | refine A.box rfl rfl rfl ?_ | refine A.alloc rfl rfl rfl ?_ | refine A.store rfl rfl rfl rfl rfl ?_ | refine A.build rfl rfl rfl rfl ?_ | refine A.buildSlice rfl rfl rfl rfl rfl rfl rfl ?_
        | refine A.eqi rfl rfl ?_ | refine A.nei rfl rfl ?_ | refine A.lss rfl rfl ?_ | refine A.leq rfl rfl ?_ | refine A.gtr rfl rfl ?_ | refine A.geq rfl rfl ?_ | refine A.eqb rfl rfl rfl rfl ?_ | refine A.neb rfl rfl rfl rfl ?_ | refine A.eqs rfl rfl ?_ | refine A.nes rfl rfl ?_ | refine A.lts rfl rfl ?_ | refine A.gts rfl rfl ?_
        | refine A.not rfl ?_ | refine A.extract rfl rfl ?_ | refine A.add64 rfl rfl rfl (by omega) ?_ | refine A.sub64 rfl rfl rfl (by omega) ?_
      all_goals first | exact ⟨rfl, ⟨rfl, rfl, rfl, rfl, rfl, rfl, rfl, rfl, trivial⟩, rfl⟩ | (exfalso; simp only [decide_eq_true_eq, decide_eq_false_iff_not] at *; omega)
  refine HCode.cut [(24, .int .i64 (mid + m - i : Nat)), (20, .int .i64 (i : Nat)), (18, .int .i64 mid), (0, .vec 0 2 N 0 N), (1, .int .i64 a), (2, .int .i64 m), (3, .int .i64 b), (4, fcl)] ⟨[], [.vec ((segSort fltCmp a mid xs1).map Flt.enc)]⟩ ?_ ?_
  · by_cases k2 : a < i ∧ i < mid
    · have r2 := hr1 k2.1 k2.2
      have e3 : decide ((a : Int) < (i : Int)) = true := by simp; omega
      have e4 : decide ((i : Int) < (mid : Int)) = true := by simp; omega
      repeat' first
        | refine HCode.seq ?_ | refine HCode.region rfl ?_ | refine HCode.region_draw Lay.mix rfl ?_ | refine HCode.block ?_ | refine HCode.scope ?_ | refine HCode.skip ?_ | refine HCode.label ?_ | refine HCode.exit ?_ | refine HCode.ret ?_
        | refine HCode.cond_true rfl ?_ | refine HCode.cond_false rfl ?_ | refine HCode.cond_yes rfl (by assumption) ?_ | refine HCode.cond_no rfl (by assumption) ?_ | (refine HCode.cond rfl ?_ ?_ <;> intro hc)
        | refine A.nil_seq ?_ | refine A.nil (fun _ => rfl) ?_ | refine A.dead rfl ?_ | refine A.yes rfl rfl ?_ | refine A.no rfl rfl ?_ | refine A.yes rfl (by assumption) ?_ | refine A.no rfl (by assumption) ?_ | (refine A.guard rfl ?_ ?_ <;> intro hc)
        | refine A.move rfl ?_ | refine A.assign rfl ?_ | refine A.load_b rfl rfl rfl rfl ?_ | refine A.load_r rfl rfl rfl ?_ | refine A.field_b rfl rfl rfl rfl rfl rfl ?_ | refine A.field_r rfl rfl rfl rfl rfl rfl ?_ | refine A.field rfl rfl rfl rfl rfl ?_
        | refine A.index_r rfl rfl rfl rfl rfl rfl (by assumption) rfl ?_ | refine A.len rfl rfl rfl (by first | rw [List.length_map] | rfl) ?_ | refine A.lens rfl rfl rfl rfl ?_
        | refine A.pick_true rfl rfl rfl ?_ | refine A.pick_false rfl rfl rfl ?_ | refine A.pick_true rfl (by assumption) rfl ?_ | refine A.pick_false rfl (by assumption) rfl ?_
        | refine A.box rfl rfl rfl ?_ | refine A.alloc rfl rfl rfl ?_ | refine A.store rfl rfl rfl rfl rfl ?_ | refine A.build rfl rfl rfl rfl ?_ | refine A.buildSlice rfl rfl rfl rfl rfl rfl rfl ?_
        | refine A.eqi rfl rfl ?_ | refine A.nei rfl rfl ?_ | refine A.lss rfl rfl ?_ | refine A.leq rfl rfl ?_ | refine A.gtr rfl rfl ?_ | refine A.geq rfl rfl ?_ | refine A.eqb rfl rfl rfl rfl ?_ | refine A.neb rfl rfl rfl rfl ?_ | refine A.eqs rfl rfl ?_ | refine A.nes rfl rfl ?_ | refine A.lts rfl rfl ?_ | refine A.gts rfl rfl ?_
        | refine A.not rfl ?_ | refine A.extract rfl rfl ?_ | refine A.add64 rfl rfl rfl (by omega) ?_ | refine A.sub64 rfl rfl rfl (by omega) ?_
        | refine A.callV 0 rfl r2 rfl rfl (Flt.closedL _) (Flt.closedL _) rfl (WeakL.refl _) rfl rfl ?_
      exact ⟨rfl, ⟨rfl, rfl, rfl, rfl, rfl, rfl, rfl, rfl, trivial⟩, rfl⟩
    · rw [f2 k2]
      repeat' first
        | refine HCode.seq ?_ | refine HCode.region rfl ?_ | refine HCode.region_draw Lay.mix rfl ?_ | refine HCode.block ?_ | refine HCode.scope ?_ | refine HCode.skip ?_ | refine HCode.label ?_ | refine HCode.exit ?_ | refine HCode.ret ?_
        | refine HCode.cond_true rfl ?_ | refine HCode.cond_false rfl ?_ | refine HCode.cond_yes rfl (by assumption) ?_ | refine HCode.cond_no rfl (by assumption) ?_ | (refine HCode.cond rfl ?_ ?_ <;> intro hc)
        | refine A.nil_seq ?_ | refine A.nil (fun _ => rfl) ?_ | refine A.dead rfl ?_ | refine A.yes rfl rfl ?_ | refine A.no rfl rfl ?_ | refine A.yes rfl (by assumption) ?_ | refine A.no rfl (by assumption) ?_ | (refine A.guard rfl ?_ ?_ <;> intro hc)
        | refine A.move rfl ?_ | refine A.assign rfl ?_ | refine A.load_b rfl rfl rfl rfl ?_ | refine A.load_r rfl rfl rfl ?_ | refine A.field_b rfl rfl rfl rfl rfl rfl ?_ | refine A.field_r rfl rfl rfl rfl rfl rfl ?_ | refine A.field rfl rfl rfl rfl rfl ?_
        | refine A.index_r rfl rfl rfl rfl rfl rfl (by assumption) rfl ?_ | refine A.len rfl rfl rfl (by first | rw [List.length_map] | rfl) ?_ | refine A.lens rfl rfl rfl rfl ?_
        | refine A.pick_true rfl rfl rfl ?_ | refine A.pick_false rfl rfl rfl ?_ | refine A.pick_true rfl (by assumption) rfl ?_ | refine A.pick_false rfl (by assumption) rfl ?_
        | refine A.box rfl rfl rfl ?_ | refine A.alloc rfl rfl rfl ?_ | refine A.store rfl rfl rfl rfl rfl ?_ | refine A.build rfl rfl rfl rfl ?_ | refine A.buildSlice rfl rfl rfl rfl rfl rfl rfl ?_
        | refine A.eqi rfl rfl ?_ | refine A.nei rfl rfl ?_ | refine A.lss rfl rfl ?_ | refine A.leq rfl rfl ?_ | refine A.gtr rfl rfl ?_ | refine A.geq rfl rfl ?_ | refine A.eqb rfl rfl rfl rfl ?_ | refine A.neb rfl rfl rfl rfl ?_ | refine A.eqs rfl rfl ?_ | refine A.nes rfl rfl ?_ | refine A.lts rfl rfl ?_ | refine A.gts rfl rfl ?_
        | refine A.not rfl ?_ | refine A.extract rfl rfl ?_ | refine A.add64 rfl rfl rfl (by omega) ?_ | refine A.sub64 rfl rfl rfl (by omega) ?_
      all_goals first | exact ⟨rfl, ⟨rfl, rfl, rfl, rfl, rfl, rfl, rfl, rfl, trivial⟩, rfl⟩ | (exfalso; simp only [decide_eq_true_eq, decide_eq_false_iff_not] at *; omega)
  · by_cases k3 : mid < mid + m - i ∧ mid + m - i < b
    · have r3 := hr2 k3.1 k3.2
      have e5 : decide ((mid : Int) < ((mid + m - i : Nat) : Int)) = true := by simp; omega
      have e6 : decide (((mid + m - i : Nat) : Int) < (b : Int)) = true := by simp; omega
      repeat' first
        | refine HCode.seq ?_ | refine HCode.region rfl ?_ | refine HCode.region_draw Lay.mix rfl ?_ | refine HCode.block ?_ | refine HCode.scope ?_ | refine HCode.skip ?_ | refine HCode.label ?_ | refine HCode.exit ?_ | refine HCode.ret ?_
        | refine HCode.cond_true rfl ?_ | refine HCode.cond_false rfl ?_ | refine HCode.cond_yes rfl (by assumption) ?_ | refine HCode.cond_no rfl (by assumption) ?_ | (refine HCode.cond rfl ?_ ?_ <;> intro hc)
        | refine A.nil_seq ?_ | refine A.nil (fun _ => rfl) ?_ | refine A.dead rfl ?_ | refine A.yes rfl rfl ?_ | refine A.no rfl rfl ?_ | refine A.yes rfl (by assumption) ?_ | refine A.no rfl (by assumption) ?_ | (refine A.guard rfl ?_ ?_ <;> intro hc)
        | refine A.move rfl ?_ | refine A.assign rfl ?_ | refine A.load_b rfl rfl rfl rfl ?_ | refine A.load_r rfl rfl rfl ?_ | refine A.field_b rfl rfl rfl rfl rfl rfl ?_ | refine A.field_r rfl rfl rfl rfl rfl rfl ?_ | refine A.field rfl rfl rfl rfl rfl ?_
        | refine A.index_r rfl rfl rfl rfl rfl rfl (by assumption) rfl ?_ | refine A.len rfl rfl rfl (by first | rw [List.length_map] | rfl) ?_ | refine A.lens rfl rfl rfl rfl ?_
        | refine A.pick_true rfl rfl rfl ?_ | refine A.pick_false rfl rfl rfl ?_ | refine A.pick_true rfl (by assumption) rfl ?_ | refine A.pick_false rfl (by assumption) rfl ?_
        | refine A.box rfl rfl rfl ?_ | refine A.alloc rfl rfl rfl ?_ | refine A.store rfl rfl rfl rfl rfl ?_ | refine A.build rfl rfl rfl rfl ?_ | refine A.buildSlice rfl rfl rfl rfl rfl rfl rfl ?_
        | refine A.eqi rfl rfl ?_ | refine A.nei rfl rfl ?_ | refine A.lss rfl rfl ?_ | refine A.leq rfl rfl ?_ | refine A.gtr rfl rfl ?_ | refine A.geq rfl rfl ?_ | refine A.eqb rfl rfl rfl rfl ?_ | refine A.neb rfl rfl rfl rfl ?_ | refine A.eqs rfl rfl ?_ | refine A.nes rfl rfl ?_ | refine A.lts rfl rfl ?_ | refine A.gts rfl rfl ?_
        | refine A.not rfl ?_ | refine A.extract rfl rfl ?_ | refine A.add64 rfl rfl rfl (by omega) ?_ | refine A.sub64 rfl rfl rfl (by omega) ?_
        | refine A.callV 0 rfl r3 rfl rfl (Flt.closedL _) (Flt.closedL _) rfl (WeakL.refl _) rfl rfl ?_
      exact ⟨rfl, rfl⟩
    · rw [f3 k3]
      repeat' first
        | refine HCode.seq ?_ | refine HCode.region rfl ?_ | refine HCode.region_draw Lay.mix rfl ?_ | refine HCode.block ?_ | refine HCode.scope ?_ | refine HCode.skip ?_ | refine HCode.label ?_ | refine HCode.exit ?_ | refine HCode.ret ?_
        | refine HCode.cond_true rfl ?_ | refine HCode.cond_false rfl ?_ | refine HCode.cond_yes rfl (by assumption) ?_ | refine HCode.cond_no rfl (by assumption) ?_ | (refine HCode.cond rfl ?_ ?_ <;> intro hc)
        | refine A.nil_seq ?_ | refine A.nil (fun _ => rfl) ?_ | refine A.dead rfl ?_ | refine A.yes rfl rfl ?_ | refine A.no rfl rfl ?_ | refine A.yes rfl (by assumption) ?_ | refine A.no rfl (by assumption) ?_ | (refine A.guard rfl ?_ ?_ <;> intro hc)
        | refine A.move rfl ?_ | refine A.assign rfl ?_ | refine A.load_b rfl rfl rfl rfl ?_ | refine A.load_r rfl rfl rfl ?_ | refine A.field_b rfl rfl rfl rfl rfl rfl ?_ | refine A.field_r rfl rfl rfl rfl rfl rfl ?_ | refine A.field rfl rfl rfl rfl rfl ?_
        | refine A.index_r rfl rfl rfl rfl rfl rfl (by assumption) rfl ?_ | refine A.len rfl rfl rfl (by first | rw [List.length_map] | rfl) ?_ | refine A.lens rfl rfl rfl rfl ?_
        | refine A.pick_true rfl rfl rfl ?_ | refine A.pick_false rfl rfl rfl ?_ | refine A.pick_true rfl (by assumption) rfl ?_ | refine A.pick_false rfl (by assumption) rfl ?_
        | refine A.box rfl rfl rfl ?_ | refine A.alloc rfl rfl rfl ?_ | refine A.store rfl rfl rfl rfl rfl ?_ | refine A.build rfl rfl rfl rfl ?_ | refine A.buildSlice rfl rfl rfl rfl rfl rfl rfl ?_
        | refine A.eqi rfl rfl ?_ | refine A.nei rfl rfl ?_ | refine A.lss rfl rfl ?_ | refine A.leq rfl rfl ?_ | refine A.gtr rfl rfl ?_ | refine A.geq rfl rfl ?_ | refine A.eqb rfl rfl rfl rfl ?_ | refine A.neb rfl rfl rfl rfl ?_ | refine A.eqs rfl rfl ?_ | refine A.nes rfl rfl ?_ | refine A.lts rfl rfl ?_ | refine A.gts rfl rfl ?_
        | refine A.not rfl ?_ | refine A.extract rfl rfl ?_ | refine A.add64 rfl rfl rfl (by omega) ?_ | refine A.sub64 rfl rfl rfl (by omega) ?_
      all_goals first | exact ⟨rfl, rfl⟩ | (exfalso; simp only [decide_eq_true_eq, decide_eq_false_iff_not] at *; omega)
theorem smGen (N : Nat) (hN' : N ≤ 1048576) (xs : List Flt) (a m b : Nat) (hxl : xs.length = N) (ham : a < m) (hmb : m < b) (hbN : b ≤ N) (S1 : SrtIx fltCmp a m xs) (S2 : SrtIx fltCmp m b xs) (d0 : (((m - a : Nat) : Int) == 1) = false) (d01 : (((b - m : Nat) : Int) == 1) = false)
    (ih : ∀ (ys : List Flt) (a' m' b' : Nat), b' - a' < b - a → ys.length = N → a' < m' → m' < b' → b' ≤ N → SrtIx fltCmp a' m' ys → SrtIx fltCmp m' b' ys → AFn Try.prog 99 [.vec 0 2 N 0 N, .int .i64 a', .int .i64 m', .int .i64 b', fcl] ⟨[], [.vec (ys.map Flt.enc)]⟩
      (fun e σ => e = .ret (.tup []) ∧ σ = ⟨[], [.vec ((segSort fltCmp a' b' ys).map Flt.enc)]⟩)) :
    AFn Try.prog 99 [.vec 0 2 N 0 N, .int .i64 a, .int .i64 m, .int .i64 b, fcl] ⟨[], [.vec (xs.map Flt.enc)]⟩
      (fun e σ => e = .ret (.tup []) ∧ σ = ⟨[], [.vec ((segSort fltCmp a b xs).map Flt.enc)]⟩) := by
  have hml : (xs.map Flt.enc).length = N := by rw [List.length_map, hxl]
  refine AFn.enter [] Try.func99 rfl rfl rfl rfl rfl (by decide) ?_
  generalize hmid : (a + b) / 2 = mid
  have hmid1 : a ≤ mid ∧ mid < b ∧ a + b ≤ 2 * mid + 1 ∧ 2 * mid ≤ a + b := by omega
  by_cases c3 : m ≤ mid
  · have d02 : decide ((mid : Int) < (m : Int)) = false := by simp; omega
    repeat' first
      | refine A.sub64 (r := ((m - a : Nat) : Int)) rfl rfl (by omega) (by omega) ?_ | refine A.sub64 (r := ((b - m : Nat) : Int)) rfl rfl (by omega) (by omega) ?_ | refine A.add64 (r := ((a + b : Nat) : Int)) rfl rfl (by omega) (by omega) ?_ | refine A.conv rfl rfl rfl rfl (IntWalk.u64_in _ (by omega)) ?_ | refine A.conv rfl rfl rfl rfl (IntWalk.i64_in _ (by omega)) ?_ | refine A.shr1 (r := ((mid : Nat) : Int)) rfl (by rw [← hmid]; exact half_of a b) ?_
      | refine A.add64 (r := ((mid + m : Nat) : Int)) rfl rfl (by omega) (by omega) ?_ | refine A.sub64 (r := ((mid + m - b : Nat) : Int)) rfl rfl (by omega) (by omega) ?_ | refine A.sub64 (r := ((mid + m - 1 : Nat) : Int)) rfl rfl (by omega) (by omega) ?_
      | refine HCode.seq ?_ | refine HCode.region rfl ?_ | refine HCode.region_draw Lay.mix rfl ?_ | refine HCode.block ?_ | refine HCode.scope ?_ | refine HCode.skip ?_ | refine HCode.label ?_ | refine HCode.exit ?_ | refine HCode.ret ?_
      | refine HCode.cond_true rfl ?_ | refine HCode.cond_false rfl ?_ | refine HCode.cond_yes rfl (by assumption) ?_ | refine HCode.cond_no rfl (by assumption) ?_ | (refine HCode.cond rfl ?_ ?_ <;> intro hc)
      | refine A.nil_seq ?_ | refine A.nil (fun _ => rfl) ?_ | refine A.dead rfl ?_ | refine A.yes rfl rfl ?_ | refine A.no rfl rfl ?_ | refine A.yes rfl (by assumption) ?_ | refine A.no rfl (by assumption) ?_ | (refine A.guard rfl ?_ ?_ <;> intro hc)
      | refine A.move rfl ?_ | refine A.assign rfl ?_ | refine A.load_b rfl rfl rfl rfl ?_ | refine A.load_r rfl rfl rfl ?_ | refine A.field_b rfl rfl rfl rfl rfl rfl ?_ | refine A.field_r rfl rfl rfl rfl rfl rfl ?_ | refine A.field rfl rfl rfl rfl rfl ?_
      | refine A.index_r rfl rfl rfl rfl rfl rfl (by assumption) rfl ?_ | refine A.len rfl rfl rfl (by first | rw [List.length_map] | rfl) ?_ | refine A.lens rfl rfl rfl rfl ?_
      | refine A.pick_true rfl rfl rfl ?_ | refine A.pick_false rfl rfl rfl ?_ | refine A.pick_true rfl (by assumption) rfl ?_ | refine A.pick_false rfl (by assumption) rfl ?_
      | refine A.box rfl rfl rfl ?_ | refine A.alloc rfl rfl rfl ?_ | refine A.store rfl rfl rfl rfl rfl ?_ | refine A.build rfl rfl rfl rfl ?_ | refine A.buildSlice rfl rfl rfl rfl rfl rfl rfl ?_
      | refine A.eqi rfl rfl ?_ | refine A.nei rfl rfl ?_ | refine A.lss rfl rfl ?_ | refine A.leq rfl rfl ?_ | refine A.gtr rfl rfl ?_ | refine A.geq rfl rfl ?_ | refine A.eqb rfl rfl rfl rfl ?_ | refine A.neb rfl rfl rfl rfl ?_ | refine A.eqs rfl rfl ?_ | refine A.nes rfl rfl ?_ | refine A.lts rfl rfl ?_ | refine A.gts rfl rfl ?_
      | refine A.not rfl ?_ | refine A.extract rfl rfl ?_ | refine A.add64 rfl rfl rfl (by omega) ?_ | refine A.sub64 rfl rfl rfl (by omega) ?_
    change HCode _ _ _ _ _ _ _
    refine HCode.loop (fun k s σ => ∃ i j : Nat, k = j - i ∧ a ≤ i ∧ i ≤ j ∧ j ≤ m ∧ (a < i → ∀ x y, xs[mid + m - i]? = some x → xs[i - 1]? = some y → ¬ fltCmp x y < 0) ∧ (j < m → ∀ x y, xs[mid + m - 1 - j]? = some x → xs[j]? = some y → fltCmp x y < 0) ∧ σ = ⟨[], [.vec (xs.map Flt.enc)]⟩ ∧
      s = [(20, .int .i64 (i : Nat)), (21, .int .i64 (j : Nat)), (22, .int .i64 (mid + m - 1 : Nat)), (19, .int .i64 (mid + m : Nat)), (18, .int .i64 mid), (0, .vec 0 2 N 0 N), (1, .int .i64 a), (2, .int .i64 m), (3, .int .i64 b), (4, fcl)])
      (s0 := [(20, .int .i64 (a : Nat)), (21, .int .i64 (m : Nat)), (22, .int .i64 (mid + m - 1 : Nat)), (19, .int .i64 (mid + m : Nat)), (18, .int .i64 mid), (0, .vec 0 2 N 0 N), (1, .int .i64 a), (2, .int .i64 m), (3, .int .i64 b), (4, fcl)])
      ⟨rfl, rfl, rfl, rfl, rfl, rfl, rfl, rfl, rfl, rfl, trivial⟩ ⟨a, m, rfl, Nat.le_refl _, by omega, Nat.le_refl _, fun h => by omega, fun h => by omega, rfl, rfl⟩ ?_
    rintro k s σ ⟨i, j, rfl, hsi, hij, hjr, q1, q2, rfl, rfl⟩
    by_cases h1 : i < j
    · have d1 : decide ((i : Int) < (j : Int)) = true := by simp [h1]
      have hh : i ≤ (i + j) / 2 ∧ (i + j) / 2 < j := by omega
      generalize hhe : (i + j) / 2 = h at hh
      have hhx : h < xs.length := by omega
      have hpx : mid + m - 1 - h < xs.length := by omega
      have x1 : (xs.map Flt.enc)[h]? = some (xs[h].enc) := by rw [List.getElem?_map, List.getElem?_eq_getElem hhx]; rfl
      have x2 : (xs.map Flt.enc)[mid + m - 1 - h]? = some (xs[mid + m - 1 - h].enc) := by rw [List.getElem?_map, List.getElem?_eq_getElem hpx]; rfl
      have hb1 : h < N - 0 := by omega
      have hb2 : mid + m - 1 - h < N - 0 := by omega
      have hcc := sortCmp xs[mid + m - 1 - h] xs[h]
      repeat' first
        | refine A.add64 (r := ((i + j : Nat) : Int)) rfl rfl (by omega) (by omega) ?_ | refine A.conv rfl rfl rfl rfl (IntWalk.u64_in _ (by omega)) ?_ | refine A.conv rfl rfl rfl rfl (IntWalk.i64_in _ (by omega)) ?_ | refine A.shr1 (r := ((h : Nat) : Int)) rfl (by rw [← hhe]; exact half_of i j) ?_ | refine A.sub64 (r := ((mid + m - 1 - h : Nat) : Int)) rfl rfl (by omega) (by omega) ?_
        | refine HCode.seq ?_ | refine HCode.region rfl ?_ | refine HCode.region_draw Lay.mix rfl ?_ | refine HCode.block ?_ | refine HCode.scope ?_ | refine HCode.skip ?_ | refine HCode.label ?_ | refine HCode.exit ?_ | refine HCode.ret ?_
        | refine HCode.cond_true rfl ?_ | refine HCode.cond_false rfl ?_ | refine HCode.cond_yes rfl (by assumption) ?_ | refine HCode.cond_no rfl (by assumption) ?_ | (refine HCode.cond rfl ?_ ?_ <;> intro hc)
        | refine A.nil_seq ?_ | refine A.nil (fun _ => rfl) ?_ | refine A.dead rfl ?_ | refine A.yes rfl rfl ?_ | refine A.no rfl rfl ?_ | refine A.yes rfl (by assumption) ?_ | refine A.no rfl (by assumption) ?_ | (refine A.guard rfl ?_ ?_ <;> intro hc)
        | refine A.move rfl ?_ | refine A.assign rfl ?_ | refine A.load_b rfl rfl rfl rfl ?_ | refine A.load_r rfl rfl rfl ?_ | refine A.field_b rfl rfl rfl rfl rfl rfl ?_ | refine A.field_r rfl rfl rfl rfl rfl rfl ?_ | refine A.field rfl rfl rfl rfl rfl ?_
        | refine A.index_r rfl rfl rfl rfl rfl rfl (by assumption) rfl ?_ | refine A.len rfl rfl rfl (by first | rw [List.length_map] | rfl) ?_ | refine A.lens rfl rfl rfl rfl ?_
        | refine A.pick_true rfl rfl rfl ?_ | refine A.pick_false rfl rfl rfl ?_ | refine A.pick_true rfl (by assumption) rfl ?_ | refine A.pick_false rfl (by assumption) rfl ?_
        | refine A.box rfl rfl rfl ?_ | refine A.alloc rfl rfl rfl ?_ | refine A.store rfl rfl rfl rfl rfl ?_ | refine A.build rfl rfl rfl rfl ?_ | refine A.buildSlice rfl rfl rfl rfl rfl rfl rfl ?_
        | refine A.eqi rfl rfl ?_ | refine A.nei rfl rfl ?_ | refine A.lss rfl rfl ?_ | refine A.leq rfl rfl ?_ | refine A.gtr rfl rfl ?_ | refine A.geq rfl rfl ?_ | refine A.eqb rfl rfl rfl rfl ?_ | refine A.neb rfl rfl rfl rfl ?_ | refine A.eqs rfl rfl ?_ | refine A.nes rfl rfl ?_ | refine A.lts rfl rfl ?_ | refine A.gts rfl rfl ?_
        | refine A.not rfl ?_ | refine A.extract rfl rfl ?_ | refine A.add64 rfl rfl rfl (by omega) ?_ | refine A.sub64 rfl rfl rfl (by omega) ?_
        | refine A.vindex rfl rfl rfl rfl rfl rfl rfl (by assumption) (Nat.zero_add _) ?_ | refine A.vfield rfl rfl rfl rfl rfl rfl ?_ | refine A.vload rfl rfl rfl (by assumption) (by assumption) rfl ?_ | refine A.vlen rfl rfl rfl rfl ?_ | refine A.callv rfl rfl hcc (WeakL.refl _) ?_
      · refine ⟨j - (h + 1), by omega, [(20, .int .i64 ((h + 1 : Nat) : Int)), (21, .int .i64 (j : Nat)), (22, .int .i64 (mid + m - 1 : Nat)), (19, .int .i64 (mid + m : Nat)), (18, .int .i64 mid), (0, .vec 0 2 N 0 N), (1, .int .i64 a), (2, .int .i64 m), (3, .int .i64 b), (4, fcl)],
          ⟨rfl, rfl, rfl, rfl, rfl, rfl, rfl, rfl, rfl, rfl, trivial⟩, rfl, by simp [belowB, belowT, Tok.low, Flt.lowL], h + 1, j, rfl, by omega, by omega, hjr, fun _ x y f1 f2 => ?_, q2, rfl, rfl⟩
        rw [show mid + m - (h + 1) = mid + m - 1 - h by omega, List.getElem?_eq_getElem hpx] at f1
        rw [show h + 1 - 1 = h by omega, List.getElem?_eq_getElem hhx] at f2
        cases f1; cases f2
        simpa using hc
      · refine ⟨h - i, by omega, [(20, .int .i64 (i : Nat)), (21, .int .i64 (h : Nat)), (22, .int .i64 (mid + m - 1 : Nat)), (19, .int .i64 (mid + m : Nat)), (18, .int .i64 mid), (0, .vec 0 2 N 0 N), (1, .int .i64 a), (2, .int .i64 m), (3, .int .i64 b), (4, fcl)],
          ⟨rfl, rfl, rfl, rfl, rfl, rfl, rfl, rfl, rfl, rfl, trivial⟩, rfl, by simp [belowB, belowT, Tok.low, Flt.lowL], i, h, rfl, hsi, by omega, by omega, q1, fun _ x y f1 f2 => ?_, rfl, rfl⟩
        rw [List.getElem?_eq_getElem hpx] at f1
        rw [List.getElem?_eq_getElem hhx] at f2
        cases f1; cases f2
        simpa using hc
    · have d1 : decide ((i : Int) < (j : Int)) = false := by simp; omega
      have hij2 : i = j := by omega
      subst hij2
      obtain ⟨P, U, V, S, ex, hP, hU, hV, b1, b2, b3, b4, b5, hsame, g1, g2, g3, g4, g5, f1, f2, f3⟩ := merge_plan fltCmp_cmp (s := i) (e := mid + m - i) (mid := mid) ham hmb (by omega) S1 S2 hmid.symm rfl (by omega)
        (by rw [if_pos c3]; exact fun h => q1 h) (by rw [if_pos c3, show mid + m - i - 1 = mid + m - 1 - i by omega]; exact fun h => q2 h)
      have hrot := rotate P U V S i m (mid + m - i) N hP (by omega) (by omega) (by rw [← ex]; exact hxl) hN'
      rw [← ex] at hrot
      have hl1 : (P ++ V ++ U ++ S).length = N := g1.len.trans hxl
      generalize P ++ V ++ U ++ S = xs1 at *
      have hl2 : (segSort fltCmp a mid xs1).length = N := (segSort_seg fltCmp_cmp (show a ≤ mid by omega) (show mid ≤ xs1.length by omega)).1.len.trans hl1
      have hr1 := ih xs1 a i mid (by omega) hl1
      have g4' := g4.out (segSort_seg fltCmp_cmp (show a ≤ mid by omega) (show mid ≤ xs1.length by omega)).1 (.inr (Nat.le_refl _))
      have g5' := g5.out (segSort_seg fltCmp_cmp (show a ≤ mid by omega) (show mid ≤ xs1.length by omega)).1 (.inr (by omega))
      have hr2 := ih (segSort fltCmp a mid xs1) mid (mid + m - i) b (by omega) hl2
      rw [← f1]
      have htail := smTail N hN' xs xs1 a m b mid i (by omega) (by omega) hbN hsame (fun h1 h2 => hrot (by omega) (by omega)) (fun h1 h2 => hr1 h1 h2 (by omega) g2 g3) (fun h1 h2 => hr2 h1 h2 (by omega) g4' g5') f2 f3
      repeat' first
        | (refine HCode.weaken htail ?_; exact ⟨rfl, rfl, rfl, rfl, rfl, rfl, rfl, rfl, trivial⟩)
        | refine HCode.seq ?_ | refine HCode.region rfl ?_ | refine HCode.region_draw Lay.mix rfl ?_ | refine HCode.block ?_ | refine HCode.scope ?_ | refine HCode.skip ?_ | refine HCode.label ?_ | refine HCode.exit ?_ | refine HCode.ret ?_
        | refine HCode.cond_true rfl ?_ | refine HCode.cond_false rfl ?_ | refine HCode.cond_yes rfl (by assumption) ?_ | refine HCode.cond_no rfl (by assumption) ?_ | (refine HCode.cond rfl ?_ ?_ <;> intro hc)
        | refine A.nil_seq ?_ | refine A.nil (fun _ => rfl) ?_ | refine A.dead rfl ?_ | refine A.yes rfl rfl ?_ | refine A.no rfl rfl ?_ | refine A.yes rfl (by assumption) ?_ | refine A.no rfl (by assumption) ?_ | (refine A.guard rfl ?_ ?_ <;> intro hc)
        | refine A.move rfl ?_ | refine A.assign rfl ?_ | refine A.load_b rfl rfl rfl rfl ?_ | refine A.load_r rfl rfl rfl ?_ | refine A.field_b rfl rfl rfl rfl rfl rfl ?_ | refine A.field_r rfl rfl rfl rfl rfl rfl ?_ | refine A.field rfl rfl rfl rfl rfl ?_
        | refine A.index_r rfl rfl rfl rfl rfl rfl (by assumption) rfl ?_ | refine A.len rfl rfl rfl (by first | rw [List.length_map] | rfl) ?_ | refine A.lens rfl rfl rfl rfl ?_
        | refine A.pick_true rfl rfl rfl ?_ | refine A.pick_false rfl rfl rfl ?_ | refine A.pick_true rfl (by assumption) rfl ?_ | refine A.pick_false rfl (by assumption) rfl ?_
        | refine A.box rfl rfl rfl ?_ | refine A.alloc rfl rfl rfl ?_ | refine A.store rfl rfl rfl rfl rfl ?_ | refine A.build rfl rfl rfl rfl ?_ | refine A.buildSlice rfl rfl rfl rfl rfl rfl rfl ?_
        | refine A.eqi rfl rfl ?_ | refine A.nei rfl rfl ?_ | refine A.lss rfl rfl ?_ | refine A.leq rfl rfl ?_ | refine A.gtr rfl rfl ?_ | refine A.geq rfl rfl ?_ | refine A.eqb rfl rfl rfl rfl ?_ | refine A.neb rfl rfl rfl rfl ?_ | refine A.eqs rfl rfl ?_ | refine A.nes rfl rfl ?_ | refine A.lts rfl rfl ?_ | refine A.gts rfl rfl ?_
        | refine A.not rfl ?_ | refine A.extract rfl rfl ?_ | refine A.add64 rfl rfl rfl (by omega) ?_ | refine A.sub64 rfl rfl rfl (by omega) ?_
  · have d02 : decide ((mid : Int) < (m : Int)) = true := by simp; omega
    repeat' first
      | refine A.sub64 (r := ((m - a : Nat) : Int)) rfl rfl (by omega) (by omega) ?_ | refine A.sub64 (r := ((b - m : Nat) : Int)) rfl rfl (by omega) (by omega) ?_ | refine A.add64 (r := ((a + b : Nat) : Int)) rfl rfl (by omega) (by omega) ?_ | refine A.conv rfl rfl rfl rfl (IntWalk.u64_in _ (by omega)) ?_ | refine A.conv rfl rfl rfl rfl (IntWalk.i64_in _ (by omega)) ?_ | refine A.shr1 (r := ((mid : Nat) : Int)) rfl (by rw [← hmid]; exact half_of a b) ?_
      | refine A.add64 (r := ((mid + m : Nat) : Int)) rfl rfl (by omega) (by omega) ?_ | refine A.sub64 (r := ((mid + m - b : Nat) : Int)) rfl rfl (by omega) (by omega) ?_ | refine A.sub64 (r := ((mid + m - 1 : Nat) : Int)) rfl rfl (by omega) (by omega) ?_
      | refine HCode.seq ?_ | refine HCode.region rfl ?_ | refine HCode.region_draw Lay.mix rfl ?_ | refine HCode.block ?_ | refine HCode.scope ?_ | refine HCode.skip ?_ | refine HCode.label ?_ | refine HCode.exit ?_ | refine HCode.ret ?_
      | refine HCode.cond_true rfl ?_ | refine HCode.cond_false rfl ?_ | refine HCode.cond_yes rfl (by assumption) ?_ | refine HCode.cond_no rfl (by assumption) ?_ | (refine HCode.cond rfl ?_ ?_ <;> intro hc)
      | refine A.nil_seq ?_ | refine A.nil (fun _ => rfl) ?_ | refine A.dead rfl ?_ | refine A.yes rfl rfl ?_ | refine A.no rfl rfl ?_ | refine A.yes rfl (by assumption) ?_ | refine A.no rfl (by assumption) ?_ | (refine A.guard rfl ?_ ?_ <;> intro hc)
      | refine A.move rfl ?_ | refine A.assign rfl ?_ | refine A.load_b rfl rfl rfl rfl ?_ | refine A.load_r rfl rfl rfl ?_ | refine A.field_b rfl rfl rfl rfl rfl rfl ?_ | refine A.field_r rfl rfl rfl rfl rfl rfl ?_ | refine A.field rfl rfl rfl rfl rfl ?_
      | refine A.index_r rfl rfl rfl rfl rfl rfl (by assumption) rfl ?_ | refine A.len rfl rfl rfl (by first | rw [List.length_map] | rfl) ?_ | refine A.lens rfl rfl rfl rfl ?_
      | refine A.pick_true rfl rfl rfl ?_ | refine A.pick_false rfl rfl rfl ?_ | refine A.pick_true rfl (by assumption) rfl ?_ | refine A.pick_false rfl (by assumption) rfl ?_
      | refine A.box rfl rfl rfl ?_ | refine A.alloc rfl rfl rfl ?_ | refine A.store rfl rfl rfl rfl rfl ?_ | refine A.build rfl rfl rfl rfl ?_ | refine A.buildSlice rfl rfl rfl rfl rfl rfl rfl ?_
      | refine A.eqi rfl rfl ?_ | refine A.nei rfl rfl ?_ | refine A.lss rfl rfl ?_ | refine A.leq rfl rfl ?_ | refine A.gtr rfl rfl ?_ | refine A.geq rfl rfl ?_ | refine A.eqb rfl rfl rfl rfl ?_ | refine A.neb rfl rfl rfl rfl ?_ | refine A.eqs rfl rfl ?_ | refine A.nes rfl rfl ?_ | refine A.lts rfl rfl ?_ | refine A.gts rfl rfl ?_
      | refine A.not rfl ?_ | refine A.extract rfl rfl ?_ | refine A.add64 rfl rfl rfl (by omega) ?_ | refine A.sub64 rfl rfl rfl (by omega) ?_
    change HCode _ _ _ _ _ _ _
    refine HCode.loop (fun k s σ => ∃ i j : Nat, k = j - i ∧ (mid + m - b) ≤ i ∧ i ≤ j ∧ j ≤ mid ∧ ((mid + m - b) < i → ∀ x y, xs[mid + m - i]? = some x → xs[i - 1]? = some y → ¬ fltCmp x y < 0) ∧ (j < mid → ∀ x y, xs[mid + m - 1 - j]? = some x → xs[j]? = some y → fltCmp x y < 0) ∧ σ = ⟨[], [.vec (xs.map Flt.enc)]⟩ ∧
      s = [(20, .int .i64 (i : Nat)), (21, .int .i64 (j : Nat)), (22, .int .i64 (mid + m - 1 : Nat)), (19, .int .i64 (mid + m : Nat)), (18, .int .i64 mid), (0, .vec 0 2 N 0 N), (1, .int .i64 a), (2, .int .i64 m), (3, .int .i64 b), (4, fcl)])
      (s0 := [(20, .int .i64 ((mid + m - b) : Nat)), (21, .int .i64 (mid : Nat)), (22, .int .i64 (mid + m - 1 : Nat)), (19, .int .i64 (mid + m : Nat)), (18, .int .i64 mid), (0, .vec 0 2 N 0 N), (1, .int .i64 a), (2, .int .i64 m), (3, .int .i64 b), (4, fcl)])
      ⟨rfl, rfl, rfl, rfl, rfl, rfl, rfl, rfl, rfl, rfl, trivial⟩ ⟨(mid + m - b), mid, rfl, Nat.le_refl _, by omega, Nat.le_refl _, fun h => by omega, fun h => by omega, rfl, rfl⟩ ?_
    rintro k s σ ⟨i, j, rfl, hsi, hij, hjr, q1, q2, rfl, rfl⟩
    by_cases h1 : i < j
    · have d1 : decide ((i : Int) < (j : Int)) = true := by simp [h1]
      have hh : i ≤ (i + j) / 2 ∧ (i + j) / 2 < j := by omega
      generalize hhe : (i + j) / 2 = h at hh
      have hhx : h < xs.length := by omega
      have hpx : mid + m - 1 - h < xs.length := by omega
      have x1 : (xs.map Flt.enc)[h]? = some (xs[h].enc) := by rw [List.getElem?_map, List.getElem?_eq_getElem hhx]; rfl
      have x2 : (xs.map Flt.enc)[mid + m - 1 - h]? = some (xs[mid + m - 1 - h].enc) := by rw [List.getElem?_map, List.getElem?_eq_getElem hpx]; rfl
      have hb1 : h < N - 0 := by omega
      have hb2 : mid + m - 1 - h < N - 0 := by omega
      have hcc := sortCmp xs[mid + m - 1 - h] xs[h]
      repeat' first
        | refine A.add64 (r := ((i + j : Nat) : Int)) rfl rfl (by omega) (by omega) ?_ | refine A.conv rfl rfl rfl rfl (IntWalk.u64_in _ (by omega)) ?_ | refine A.conv rfl rfl rfl rfl (IntWalk.i64_in _ (by omega)) ?_ | refine A.shr1 (r := ((h : Nat) : Int)) rfl (by rw [← hhe]; exact half_of i j) ?_ | refine A.sub64 (r := ((mid + m - 1 - h : Nat) : Int)) rfl rfl (by omega) (by omega) ?_
        | refine HCode.seq ?_ | refine HCode.region rfl ?_ | refine HCode.region_draw Lay.mix rfl ?_ | refine HCode.block ?_ | refine HCode.scope ?_ | refine HCode.skip ?_ | refine HCode.label ?_ | refine HCode.exit ?_ | refine HCode.ret ?_
        | refine HCode.cond_true rfl ?_ | refine HCode.cond_false rfl ?_ | refine HCode.cond_yes rfl (by assumption) ?_ | refine HCode.cond_no rfl (by assumption) ?_ | (refine HCode.cond rfl ?_ ?_ <;> intro hc)
        | refine A.nil_seq ?_ | refine A.nil (fun _ => rfl) ?_ | refine A.dead rfl ?_ | refine A.yes rfl rfl ?_ | refine A.no rfl rfl ?_ | refine A.yes rfl (by assumption) ?_ | refine A.no rfl (by assumption) ?_ | (refine A.guard rfl ?_ ?_ <;> intro hc)
        | refine A.move rfl ?_ | refine A.assign rfl ?_ | refine A.load_b rfl rfl rfl rfl ?_ | refine A.load_r rfl rfl rfl ?_ | refine A.field_b rfl rfl rfl rfl rfl rfl ?_ | refine A.field_r rfl rfl rfl rfl rfl rfl ?_ | refine A.field rfl rfl rfl rfl rfl ?_
        | refine A.index_r rfl rfl rfl rfl rfl rfl (by assumption) rfl ?_ | refine A.len rfl rfl rfl (by first | rw [List.length_map] | rfl) ?_ | refine A.lens rfl rfl rfl rfl ?_
        | refine A.pick_true rfl rfl rfl ?_ | refine A.pick_false rfl rfl rfl ?_ | refine A.pick_true rfl (by assumption) rfl ?_ | refine A.pick_false rfl (by assumption) rfl ?_
        | refine A.box rfl rfl rfl ?_ | refine A.alloc rfl rfl rfl ?_ | refine A.store rfl rfl rfl rfl rfl ?_ | refine A.build rfl rfl rfl rfl ?_ | refine A.buildSlice rfl rfl rfl rfl rfl rfl rfl ?_
        | refine A.eqi rfl rfl ?_ | refine A.nei rfl rfl ?_ | refine A.lss rfl rfl ?_ | refine A.leq rfl rfl ?_ | refine A.gtr rfl rfl ?_ | refine A.geq rfl rfl ?_ | refine A.eqb rfl rfl rfl rfl ?_ | refine A.neb rfl rfl rfl rfl ?_ | refine A.eqs rfl rfl ?_ | refine A.nes rfl rfl ?_ | refine A.lts rfl rfl ?_ | refine A.gts rfl rfl ?_
        | refine A.not rfl ?_ | refine A.extract rfl rfl ?_ | refine A.add64 rfl rfl rfl (by omega) ?_ | refine A.sub64 rfl rfl rfl (by omega) ?_
        | refine A.vindex rfl rfl rfl rfl rfl rfl rfl (by assumption) (Nat.zero_add _) ?_ | refine A.vfield rfl rfl rfl rfl rfl rfl ?_ | refine A.vload rfl rfl rfl (by assumption) (by assumption) rfl ?_ | refine A.vlen rfl rfl rfl rfl ?_ | refine A.callv rfl rfl hcc (WeakL.refl _) ?_
      · refine ⟨j - (h + 1), by omega, [(20, .int .i64 ((h + 1 : Nat) : Int)), (21, .int .i64 (j : Nat)), (22, .int .i64 (mid + m - 1 : Nat)), (19, .int .i64 (mid + m : Nat)), (18, .int .i64 mid), (0, .vec 0 2 N 0 N), (1, .int .i64 a), (2, .int .i64 m), (3, .int .i64 b), (4, fcl)],
          ⟨rfl, rfl, rfl, rfl, rfl, rfl, rfl, rfl, rfl, rfl, trivial⟩, rfl, by simp [belowB, belowT, Tok.low, Flt.lowL], h + 1, j, rfl, by omega, by omega, hjr, fun _ x y f1 f2 => ?_, q2, rfl, rfl⟩
        rw [show mid + m - (h + 1) = mid + m - 1 - h by omega, List.getElem?_eq_getElem hpx] at f1
        rw [show h + 1 - 1 = h by omega, List.getElem?_eq_getElem hhx] at f2
        cases f1; cases f2
        simpa using hc
      · refine ⟨h - i, by omega, [(20, .int .i64 (i : Nat)), (21, .int .i64 (h : Nat)), (22, .int .i64 (mid + m - 1 : Nat)), (19, .int .i64 (mid + m : Nat)), (18, .int .i64 mid), (0, .vec 0 2 N 0 N), (1, .int .i64 a), (2, .int .i64 m), (3, .int .i64 b), (4, fcl)],
          ⟨rfl, rfl, rfl, rfl, rfl, rfl, rfl, rfl, rfl, rfl, trivial⟩, rfl, by simp [belowB, belowT, Tok.low, Flt.lowL], i, h, rfl, hsi, by omega, by omega, q1, fun _ x y f1 f2 => ?_, rfl, rfl⟩
        rw [List.getElem?_eq_getElem hpx] at f1
        rw [List.getElem?_eq_getElem hhx] at f2
        cases f1; cases f2
        simpa using hc
    · have d1 : decide ((i : Int) < (j : Int)) = false := by simp; omega
      have hij2 : i = j := by omega
      subst hij2
      obtain ⟨P, U, V, S, ex, hP, hU, hV, b1, b2, b3, b4, b5, hsame, g1, g2, g3, g4, g5, f1, f2, f3⟩ := merge_plan fltCmp_cmp (s := i) (e := mid + m - i) (mid := mid) ham hmb (by omega) S1 S2 hmid.symm rfl (by omega)
        (by rw [if_neg c3]; exact fun h => q1 h) (by rw [if_neg c3, show mid + m - i - 1 = mid + m - 1 - i by omega]; exact fun h => q2 h)
      have hrot := rotate P U V S i m (mid + m - i) N hP (by omega) (by omega) (by rw [← ex]; exact hxl) hN'
      rw [← ex] at hrot
      have hl1 : (P ++ V ++ U ++ S).length = N := g1.len.trans hxl
      generalize P ++ V ++ U ++ S = xs1 at *
      have hl2 : (segSort fltCmp a mid xs1).length = N := (segSort_seg fltCmp_cmp (show a ≤ mid by omega) (show mid ≤ xs1.length by omega)).1.len.trans hl1
      have hr1 := ih xs1 a i mid (by omega) hl1
      have g4' := g4.out (segSort_seg fltCmp_cmp (show a ≤ mid by omega) (show mid ≤ xs1.length by omega)).1 (.inr (Nat.le_refl _))
      have g5' := g5.out (segSort_seg fltCmp_cmp (show a ≤ mid by omega) (show mid ≤ xs1.length by omega)).1 (.inr (by omega))
      have hr2 := ih (segSort fltCmp a mid xs1) mid (mid + m - i) b (by omega) hl2
      rw [← f1]
      have htail := smTail N hN' xs xs1 a m b mid i (by omega) (by omega) hbN hsame (fun h1 h2 => hrot (by omega) (by omega)) (fun h1 h2 => hr1 h1 h2 (by omega) g2 g3) (fun h1 h2 => hr2 h1 h2 (by omega) g4' g5') f2 f3
      repeat' first
        | (refine HCode.weaken htail ?_; exact ⟨rfl, rfl, rfl, rfl, rfl, rfl, rfl, rfl, trivial⟩)
        | refine HCode.seq ?_ | refine HCode.region rfl ?_ | refine HCode.region_draw Lay.mix rfl ?_ | refine HCode.block ?_ | refine HCode.scope ?_ | refine HCode.skip ?_ | refine HCode.label ?_ | refine HCode.exit ?_ | refine HCode.ret ?_
        | refine HCode.cond_true rfl ?_ | refine HCode.cond_false rfl ?_ | refine HCode.cond_yes rfl (by assumption) ?_ | refine HCode.cond_no rfl (by assumption) ?_ | (refine HCode.cond rfl ?_ ?_ <;> intro hc)
        | refine A.nil_seq ?_ | refine A.nil (fun _ => rfl) ?_ | refine A.dead rfl ?_ | refine A.yes rfl rfl ?_ | refine A.no rfl rfl ?_ | refine A.yes rfl (by assumption) ?_ | refine A.no rfl (by assumption) ?_ | (refine A.guard rfl ?_ ?_ <;> intro hc)
        | refine A.move rfl ?_ | refine A.assign rfl ?_ | refine A.load_b rfl rfl rfl rfl ?_ | refine A.load_r rfl rfl rfl ?_ | refine A.field_b rfl rfl rfl rfl rfl rfl ?_ | refine A.field_r rfl rfl rfl rfl rfl rfl ?_ | refine A.field rfl rfl rfl rfl rfl ?_
        | refine A.index_r rfl rfl rfl rfl rfl rfl (by assumption) rfl ?_ | refine A.len rfl rfl rfl (by first | rw [List.length_map] | rfl) ?_ | refine A.lens rfl rfl rfl rfl ?_
        | refine A.pick_true rfl rfl rfl ?_ | refine A.pick_false rfl rfl rfl ?_ | refine A.pick_true rfl (by assumption) rfl ?_ | refine A.pick_false rfl (by assumption) rfl ?_
        | refine A.box rfl rfl rfl ?_ | refine A.alloc rfl rfl rfl ?_ | refine A.store rfl rfl rfl rfl rfl ?_ | refine A.build rfl rfl rfl rfl ?_ | refine A.buildSlice rfl rfl rfl rfl rfl rfl rfl ?_
        | refine A.eqi rfl rfl ?_ | refine A.nei rfl rfl ?_ | refine A.lss rfl rfl ?_ | refine A.leq rfl rfl ?_ | refine A.gtr rfl rfl ?_ | refine A.geq rfl rfl ?_ | refine A.eqb rfl rfl rfl rfl ?_ | refine A.neb rfl rfl rfl rfl ?_ | refine A.eqs rfl rfl ?_ | refine A.nes rfl rfl ?_ | refine A.lts rfl rfl ?_ | refine A.gts rfl rfl ?_
        | refine A.not rfl ?_ | refine A.extract rfl rfl ?_ | refine A.add64 rfl rfl rfl (by omega) ?_ | refine A.sub64 rfl rfl rfl (by omega) ?_
end Go.Proofs.Ytajddgpkflbnaaa
