/-
  Paths as values; the law PathSays.
-/
import Derived.Test.YtaapdhocpadjaaaMPathS
namespace Go.Proofs.Ytaapdhocpadjaaa
open Go Go.Av
set_option maxRecDepth 100000
set_option maxHeartbeats 4000000
set_option linter.unusedVariables false
attribute [local irreducible] HCode AOps PFn AFn Av.Step TStep

theorem weak_plain {k n : Int} {s : Str} {t t' : Tk} : Weak (.agg [.int .i64 k, .int .i64 n, .str s, .slice [] t, .slice [] t']) (Val.enc (.mk k n s [] [])) :=
  Weak.agg (WeakL.cons (Weak.refl _) (WeakL.cons (Weak.refl _) (WeakL.cons (Weak.refl _) (WeakL.cons (Weak.no (WeakL.refl _)) (WeakL.cons (Weak.no (WeakL.refl _)) (WeakL.refl _))))))

theorem vInt (n : Int) : PFn Try.prog 39 [.int .i64 n] (Val.enc (.mk 2 n [] [] [])) := by
  refine AFn.plain (Val.closed _) rfl (AFn.enterR [.cell 2 35] Try.func39 rfl rfl rfl rfl rfl ?_)
  repeat' first
    | refine HCode.seq ?_ | refine HCode.region rfl ?_ | refine HCode.region_draw Lay.mix rfl ?_ | refine HCode.block ?_ | refine HCode.scope ?_ | refine HCode.skip ?_ | refine HCode.exit ?_ | refine HCode.ret ?_
    | refine HCode.cond_true rfl ?_ | refine HCode.cond_false rfl ?_ | refine HCode.cond_yes rfl (by assumption) ?_ | refine HCode.cond_no rfl (by assumption) ?_ | (refine HCode.cond rfl ?_ ?_ <;> intro hc)
    | refine A.nil_seq ?_ | refine A.nil (fun _ => rfl) ?_ | refine A.dead rfl ?_ | refine A.yes rfl rfl ?_ | refine A.no rfl rfl ?_ | refine A.yes rfl (by assumption) ?_ | refine A.no rfl (by assumption) ?_ | (refine A.guard rfl ?_ ?_ <;> intro hc)
    | refine A.move rfl ?_ | refine A.assign rfl ?_ | refine A.load_b rfl rfl rfl rfl ?_ | refine A.load_r rfl rfl rfl ?_ | refine A.field_b rfl rfl rfl rfl rfl rfl ?_ | refine A.field_r rfl rfl rfl rfl rfl rfl ?_ | refine A.field rfl rfl rfl rfl rfl ?_
    | refine A.index_r rfl rfl rfl rfl rfl rfl (by assumption) rfl ?_ | refine A.len rfl rfl rfl (by first | rw [List.length_map] | rfl) ?_ | refine A.lens rfl rfl rfl rfl ?_
    | refine A.pick_true rfl rfl rfl ?_ | refine A.pick_false rfl rfl rfl ?_ | refine A.pick_true rfl (by assumption) rfl ?_ | refine A.pick_false rfl (by assumption) rfl ?_
    | refine A.box rfl rfl rfl ?_ | refine A.alloc rfl rfl rfl ?_ | refine A.store rfl rfl rfl rfl rfl ?_ | refine A.build rfl rfl rfl rfl ?_ | refine A.buildSlice rfl rfl rfl rfl rfl rfl rfl ?_
    | refine A.eqi rfl rfl ?_ | refine A.nei rfl rfl ?_ | refine A.lss rfl rfl ?_ | refine A.leq rfl rfl ?_ | refine A.gtr rfl rfl ?_ | refine A.geq rfl rfl ?_ | refine A.eqb rfl rfl rfl rfl ?_ | refine A.neb rfl rfl rfl rfl ?_ | refine A.eqs rfl rfl ?_ | refine A.nes rfl rfl ?_ | refine A.lts rfl rfl ?_ | refine A.gts rfl rfl ?_
    | refine A.not rfl ?_ | refine A.extract rfl rfl ?_ | refine A.add64 rfl rfl rfl (by omega) ?_ | refine A.sub64 rfl rfl rfl (by omega) ?_
  exact FinR.ret1 rfl weak_plain
theorem vText (s : Str) : PFn Try.prog 40 [.str s] (Val.enc (.mk 4 0 s [] [])) := by
  refine AFn.plain (Val.closed _) rfl (AFn.enterR [.cell 2 35] Try.func40 rfl rfl rfl rfl rfl ?_)
  repeat' first
    | refine HCode.seq ?_ | refine HCode.region rfl ?_ | refine HCode.region_draw Lay.mix rfl ?_ | refine HCode.block ?_ | refine HCode.scope ?_ | refine HCode.skip ?_ | refine HCode.exit ?_ | refine HCode.ret ?_
    | refine HCode.cond_true rfl ?_ | refine HCode.cond_false rfl ?_ | refine HCode.cond_yes rfl (by assumption) ?_ | refine HCode.cond_no rfl (by assumption) ?_ | (refine HCode.cond rfl ?_ ?_ <;> intro hc)
    | refine A.nil_seq ?_ | refine A.nil (fun _ => rfl) ?_ | refine A.dead rfl ?_ | refine A.yes rfl rfl ?_ | refine A.no rfl rfl ?_ | refine A.yes rfl (by assumption) ?_ | refine A.no rfl (by assumption) ?_ | (refine A.guard rfl ?_ ?_ <;> intro hc)
    | refine A.move rfl ?_ | refine A.assign rfl ?_ | refine A.load_b rfl rfl rfl rfl ?_ | refine A.load_r rfl rfl rfl ?_ | refine A.field_b rfl rfl rfl rfl rfl rfl ?_ | refine A.field_r rfl rfl rfl rfl rfl rfl ?_ | refine A.field rfl rfl rfl rfl rfl ?_
    | refine A.index_r rfl rfl rfl rfl rfl rfl (by assumption) rfl ?_ | refine A.len rfl rfl rfl (by first | rw [List.length_map] | rfl) ?_ | refine A.lens rfl rfl rfl rfl ?_
    | refine A.pick_true rfl rfl rfl ?_ | refine A.pick_false rfl rfl rfl ?_ | refine A.pick_true rfl (by assumption) rfl ?_ | refine A.pick_false rfl (by assumption) rfl ?_
    | refine A.box rfl rfl rfl ?_ | refine A.alloc rfl rfl rfl ?_ | refine A.store rfl rfl rfl rfl rfl ?_ | refine A.build rfl rfl rfl rfl ?_ | refine A.buildSlice rfl rfl rfl rfl rfl rfl rfl ?_
    | refine A.eqi rfl rfl ?_ | refine A.nei rfl rfl ?_ | refine A.lss rfl rfl ?_ | refine A.leq rfl rfl ?_ | refine A.gtr rfl rfl ?_ | refine A.geq rfl rfl ?_ | refine A.eqb rfl rfl rfl rfl ?_ | refine A.neb rfl rfl rfl rfl ?_ | refine A.eqs rfl rfl ?_ | refine A.nes rfl rfl ?_ | refine A.lts rfl rfl ?_ | refine A.gts rfl rfl ?_
    | refine A.not rfl ?_ | refine A.extract rfl rfl ?_ | refine A.add64 rfl rfl rfl (by omega) ?_ | refine A.sub64 rfl rfl rfl (by omega) ?_
  exact FinR.ret1 rfl weak_plain
theorem rInt (n : Int) : PFn Try.prog 64 [.int .i64 n] (Val.enc (.mk 2 n [] [] [])) := by
  refine AFn.plain (Val.closed _) rfl (AFn.enterR [.cell 2 35] Try.func64 rfl rfl rfl rfl rfl ?_)
  repeat' first
    | refine HCode.seq ?_ | refine HCode.region rfl ?_ | refine HCode.region_draw Lay.mix rfl ?_ | refine HCode.block ?_ | refine HCode.scope ?_ | refine HCode.skip ?_ | refine HCode.exit ?_ | refine HCode.ret ?_
    | refine HCode.cond_true rfl ?_ | refine HCode.cond_false rfl ?_ | refine HCode.cond_yes rfl (by assumption) ?_ | refine HCode.cond_no rfl (by assumption) ?_ | (refine HCode.cond rfl ?_ ?_ <;> intro hc)
    | refine A.nil_seq ?_ | refine A.nil (fun _ => rfl) ?_ | refine A.dead rfl ?_ | refine A.yes rfl rfl ?_ | refine A.no rfl rfl ?_ | refine A.yes rfl (by assumption) ?_ | refine A.no rfl (by assumption) ?_ | (refine A.guard rfl ?_ ?_ <;> intro hc)
    | refine A.move rfl ?_ | refine A.assign rfl ?_ | refine A.load_b rfl rfl rfl rfl ?_ | refine A.load_r rfl rfl rfl ?_ | refine A.field_b rfl rfl rfl rfl rfl rfl ?_ | refine A.field_r rfl rfl rfl rfl rfl rfl ?_ | refine A.field rfl rfl rfl rfl rfl ?_
    | refine A.index_r rfl rfl rfl rfl rfl rfl (by assumption) rfl ?_ | refine A.len rfl rfl rfl (by first | rw [List.length_map] | rfl) ?_ | refine A.lens rfl rfl rfl rfl ?_
    | refine A.pick_true rfl rfl rfl ?_ | refine A.pick_false rfl rfl rfl ?_ | refine A.pick_true rfl (by assumption) rfl ?_ | refine A.pick_false rfl (by assumption) rfl ?_
    | refine A.box rfl rfl rfl ?_ | refine A.alloc rfl rfl rfl ?_ | refine A.store rfl rfl rfl rfl rfl ?_ | refine A.build rfl rfl rfl rfl ?_ | refine A.buildSlice rfl rfl rfl rfl rfl rfl rfl ?_
    | refine A.eqi rfl rfl ?_ | refine A.nei rfl rfl ?_ | refine A.lss rfl rfl ?_ | refine A.leq rfl rfl ?_ | refine A.gtr rfl rfl ?_ | refine A.geq rfl rfl ?_ | refine A.eqb rfl rfl rfl rfl ?_ | refine A.neb rfl rfl rfl rfl ?_ | refine A.eqs rfl rfl ?_ | refine A.nes rfl rfl ?_ | refine A.lts rfl rfl ?_ | refine A.gts rfl rfl ?_
    | refine A.not rfl ?_ | refine A.extract rfl rfl ?_ | refine A.add64 rfl rfl rfl (by omega) ?_ | refine A.sub64 rfl rfl rfl (by omega) ?_
  exact FinR.ret1 rfl weak_plain
theorem rText (s : Str) : PFn Try.prog 63 [.str s] (Val.enc (.mk 4 0 s [] [])) := by
  refine AFn.plain (Val.closed _) rfl (AFn.enterR [.cell 2 35] Try.func63 rfl rfl rfl rfl rfl ?_)
  repeat' first
    | refine HCode.seq ?_ | refine HCode.region rfl ?_ | refine HCode.region_draw Lay.mix rfl ?_ | refine HCode.block ?_ | refine HCode.scope ?_ | refine HCode.skip ?_ | refine HCode.exit ?_ | refine HCode.ret ?_
    | refine HCode.cond_true rfl ?_ | refine HCode.cond_false rfl ?_ | refine HCode.cond_yes rfl (by assumption) ?_ | refine HCode.cond_no rfl (by assumption) ?_ | (refine HCode.cond rfl ?_ ?_ <;> intro hc)
    | refine A.nil_seq ?_ | refine A.nil (fun _ => rfl) ?_ | refine A.dead rfl ?_ | refine A.yes rfl rfl ?_ | refine A.no rfl rfl ?_ | refine A.yes rfl (by assumption) ?_ | refine A.no rfl (by assumption) ?_ | (refine A.guard rfl ?_ ?_ <;> intro hc)
    | refine A.move rfl ?_ | refine A.assign rfl ?_ | refine A.load_b rfl rfl rfl rfl ?_ | refine A.load_r rfl rfl rfl ?_ | refine A.field_b rfl rfl rfl rfl rfl rfl ?_ | refine A.field_r rfl rfl rfl rfl rfl rfl ?_ | refine A.field rfl rfl rfl rfl rfl ?_
    | refine A.index_r rfl rfl rfl rfl rfl rfl (by assumption) rfl ?_ | refine A.len rfl rfl rfl (by first | rw [List.length_map] | rfl) ?_ | refine A.lens rfl rfl rfl rfl ?_
    | refine A.pick_true rfl rfl rfl ?_ | refine A.pick_false rfl rfl rfl ?_ | refine A.pick_true rfl (by assumption) rfl ?_ | refine A.pick_false rfl (by assumption) rfl ?_
    | refine A.box rfl rfl rfl ?_ | refine A.alloc rfl rfl rfl ?_ | refine A.store rfl rfl rfl rfl rfl ?_ | refine A.build rfl rfl rfl rfl ?_ | refine A.buildSlice rfl rfl rfl rfl rfl rfl rfl ?_
    | refine A.eqi rfl rfl ?_ | refine A.nei rfl rfl ?_ | refine A.lss rfl rfl ?_ | refine A.leq rfl rfl ?_ | refine A.gtr rfl rfl ?_ | refine A.geq rfl rfl ?_ | refine A.eqb rfl rfl rfl rfl ?_ | refine A.neb rfl rfl rfl rfl ?_ | refine A.eqs rfl rfl ?_ | refine A.nes rfl rfl ?_ | refine A.lts rfl rfl ?_ | refine A.gts rfl rfl ?_
    | refine A.not rfl ?_ | refine A.extract rfl rfl ?_ | refine A.add64 rfl rfl rfl (by omega) ?_ | refine A.sub64 rfl rfl rfl (by omega) ?_
  exact FinR.ret1 rfl weak_plain

def stepVal (x : Step) : Val := if x.name = [] then .mk 2 x.at_ [] [] [] else .mk 4 0 x.name [] []
def pathVal (p : Path) : Val := .mk 6 0 [] (p.map stepVal) []
def stepAV (x : Step) : AV := (stepVal x).enc
theorem take_snoc {α β : Type} (f : α → β) {l : List α} {k : Nat} (h : k < l.length) : (l.take k).map f ++ [f l[k]] = (l.take (k + 1)).map f := by
  rw [List.take_succ_eq_append_getElem h, List.map_append]; rfl
theorem stepAV_closed (x : Step) : (stepAV x).closed = true := Val.closed _
theorem stepAV_low (n m : Nat) (l : List Step) : AV.lowL n m (l.map stepAV) = true := AV.lowL_of_closed n m _ (closedL_map stepAV_closed l)
theorem weak_path {p : Path} {t t' : Tk} : Weak (.agg [.int .i64 6, .int .i64 0, .str [], .slice (p.map stepAV) t, .slice [] t']) (Val.enc (pathVal p)) := by
  refine Weak.agg (WeakL.cons (Weak.refl _) (WeakL.cons (Weak.refl _) (WeakL.cons (Weak.refl _) (WeakL.cons (Weak.no (WeakL.eq ?_)) (WeakL.cons (Weak.no (WeakL.refl _)) (WeakL.refl _))))))
  show _ = Val.lv (pathVal p)
  rw [Val.lv_eq, show (pathVal p).l = p.map stepVal from rfl, List.map_map]
  rfl

theorem pathValue (p : Path) (hp : p.length ≤ 1048576) : PFn Try.prog 25 [Path.enc p] (Val.enc (pathVal p)) := by
  refine AFn.plain (Val.closed _) (by simp [AV.closedL, AV.closed, Path.enc, Step.closedL]) (AFn.enterR [.cell 2 35] Try.func25 rfl rfl rfl rfl rfl ?_)
  repeat' first
    | refine HCode.seq ?_ | refine HCode.region rfl ?_ | refine HCode.region_draw Lay.mix rfl ?_ | refine HCode.block ?_ | refine HCode.scope ?_ | refine HCode.skip ?_ | refine HCode.exit ?_ | refine HCode.ret ?_
    | refine HCode.cond_true rfl ?_ | refine HCode.cond_false rfl ?_ | refine HCode.cond_yes rfl (by assumption) ?_ | refine HCode.cond_no rfl (by assumption) ?_ | (refine HCode.cond rfl ?_ ?_ <;> intro hc)
    | refine A.nil_seq ?_ | refine A.nil (fun _ => rfl) ?_ | refine A.dead rfl ?_ | refine A.yes rfl rfl ?_ | refine A.no rfl rfl ?_ | refine A.yes rfl (by assumption) ?_ | refine A.no rfl (by assumption) ?_ | (refine A.guard rfl ?_ ?_ <;> intro hc)
    | refine A.move rfl ?_ | refine A.assign rfl ?_ | refine A.load_b rfl rfl rfl rfl ?_ | refine A.load_r rfl rfl rfl ?_ | refine A.field_b rfl rfl rfl rfl rfl rfl ?_ | refine A.field_r rfl rfl rfl rfl rfl rfl ?_ | refine A.field rfl rfl rfl rfl rfl ?_
    | refine A.index_r rfl rfl rfl rfl rfl rfl (by assumption) rfl ?_ | refine A.len rfl rfl rfl (by first | rw [List.length_map] | rfl) ?_ | refine A.lens rfl rfl rfl rfl ?_
    | refine A.pick_true rfl rfl rfl ?_ | refine A.pick_false rfl rfl rfl ?_ | refine A.pick_true rfl (by assumption) rfl ?_ | refine A.pick_false rfl (by assumption) rfl ?_
    | refine A.box rfl rfl rfl ?_ | refine A.alloc rfl rfl rfl ?_ | refine A.store rfl rfl rfl rfl rfl ?_ | refine A.build rfl rfl rfl rfl ?_ | refine A.buildSlice rfl rfl rfl rfl rfl rfl rfl ?_
    | refine A.eqi rfl rfl ?_ | refine A.nei rfl rfl ?_ | refine A.lss rfl rfl ?_ | refine A.leq rfl rfl ?_ | refine A.gtr rfl rfl ?_ | refine A.geq rfl rfl ?_ | refine A.eqb rfl rfl rfl rfl ?_ | refine A.neb rfl rfl rfl rfl ?_ | refine A.eqs rfl rfl ?_ | refine A.nes rfl rfl ?_ | refine A.lts rfl rfl ?_ | refine A.gts rfl rfl ?_
    | refine A.not rfl ?_ | refine A.extract rfl rfl ?_ | refine A.add64 rfl rfl rfl (by omega) ?_ | refine A.sub64 rfl rfl rfl (by omega) ?_
  change HCode _ _ _ _ _ _ _
  refine HCode.adoptB 1 3 true 5 rfl rfl rfl rfl rfl rfl rfl rfl ?_
  refine HCode.loop (fun n s σ => ∃ k : Nat, n = p.length - k ∧ k ≤ p.length ∧
      σ = ⟨[.cells [.int .i64 0, .int .i64 0, .str [], .slice [] .nil, .slice [] .nil], .cells [.int .i64 6, .int .i64 0, .str [], .slice ((p.take k).map stepAV) (.own 0 5), .slice [] .nil]], [k]⟩ ∧
      s = [(9, .int .i64 k), (8, .int .i64 p.length), (7, Path.enc p), (3, .ptr 1 0), (2, .ptr 0 0)])
      (s0 := [(9, .int .i64 (0 : Nat)), (8, .int .i64 p.length), (7, Path.enc p), (3, .ptr 1 0), (2, .ptr 0 0)])
      ⟨rfl, rfl, rfl, rfl, rfl, trivial⟩ ⟨0, rfl, Nat.zero_le _, rfl, rfl⟩ ?_
  rintro n s σ ⟨k, rfl, hk, rfl, rfl⟩
  by_cases h1 : k < p.length
  · have d1 : decide ((k : Int) < (p.length : Int)) = true := by simp [h1]
    have x1 := map_get (f := Step.enc) h1
    have hlen : ((p.take k).map stepAV).length = k := by simp; omega
    have ei : p[k].name = [] → stepAV p[k] = Val.enc (.mk 2 p[k].at_ [] [] []) := fun h => by rw [stepAV, stepVal, if_pos h]
    have et : p[k].name ≠ [] → stepAV p[k] = Val.enc (.mk 4 0 p[k].name [] []) := fun h => by rw [stepAV, stepVal, if_neg h]
    have hi := vInt p[k].at_
    have ht := vText p[k].name
    repeat' first
      | refine HCode.seq ?_ | refine HCode.region rfl ?_ | refine HCode.region_draw Lay.mix rfl ?_ | refine HCode.block ?_ | refine HCode.scope ?_ | refine HCode.skip ?_ | refine HCode.exit ?_ | refine HCode.ret ?_
      | refine HCode.cond_true rfl ?_ | refine HCode.cond_false rfl ?_ | refine HCode.cond_yes rfl (by assumption) ?_ | refine HCode.cond_no rfl (by assumption) ?_ | (refine HCode.cond rfl ?_ ?_ <;> intro hc)
      | refine A.nil_seq ?_ | refine A.nil (fun _ => rfl) ?_ | refine A.dead rfl ?_ | refine A.yes rfl rfl ?_ | refine A.no rfl rfl ?_ | refine A.yes rfl (by assumption) ?_ | refine A.no rfl (by assumption) ?_ | (refine A.guard rfl ?_ ?_ <;> intro hc)
      | refine A.move rfl ?_ | refine A.assign rfl ?_ | refine A.load_b rfl rfl rfl rfl ?_ | refine A.load_r rfl rfl rfl ?_ | refine A.field_b rfl rfl rfl rfl rfl rfl ?_ | refine A.field_r rfl rfl rfl rfl rfl rfl ?_ | refine A.field rfl rfl rfl rfl rfl ?_
      | refine A.index_r rfl rfl rfl rfl rfl rfl (by assumption) rfl ?_ | refine A.len rfl rfl rfl (by first | rw [List.length_map] | rfl) ?_ | refine A.lens rfl rfl rfl rfl ?_
      | refine A.pick_true rfl rfl rfl ?_ | refine A.pick_false rfl rfl rfl ?_ | refine A.pick_true rfl (by assumption) rfl ?_ | refine A.pick_false rfl (by assumption) rfl ?_
      | refine A.box rfl rfl rfl ?_ | refine A.alloc rfl rfl rfl ?_ | refine A.store rfl rfl rfl rfl rfl ?_ | refine A.build rfl rfl rfl rfl ?_ | refine A.buildSlice rfl rfl rfl rfl rfl rfl rfl ?_
      | refine A.eqi rfl rfl ?_ | refine A.nei rfl rfl ?_ | refine A.lss rfl rfl ?_ | refine A.leq rfl rfl ?_ | refine A.gtr rfl rfl ?_ | refine A.geq rfl rfl ?_ | refine A.eqb rfl rfl rfl rfl ?_ | refine A.neb rfl rfl rfl rfl ?_ | refine A.eqs rfl rfl ?_ | refine A.nes rfl rfl ?_ | refine A.lts rfl rfl ?_ | refine A.gts rfl rfl ?_
      | refine A.not rfl ?_ | refine A.extract rfl rfl ?_ | refine A.add64 rfl rfl rfl (by omega) ?_ | refine A.sub64 rfl rfl rfl (by omega) ?_
      | refine A.call rfl hi (WeakL.refl _) ?_ | refine A.call rfl ht (WeakL.refl _) ?_
      | refine A.append (n := k) rfl rfl rfl rfl rfl rfl rfl rfl hlen rfl (by dsimp only [List.length_cons, List.length_nil]; omega) (by dsimp only [List.length_cons, List.length_nil]; omega) rfl ?_
    · have hn : p[k].name = [] := by simpa using hc
      have es : (p.take k).map stepAV ++ [Val.enc (.mk 2 p[k].at_ [] [] [])] = (p.take (k + 1)).map stepAV := by rw [← ei hn]; exact take_snoc stepAV h1
      have hB : belowB 2 1 [.cells [.int .i64 0, .int .i64 0, .str [], .slice [] .nil, .slice [] .nil], .cells [.int .i64 6, .int .i64 0, .str [], .slice ((p.take (k + 1)).map stepAV) (.own 0 5), .slice [] .nil]] = true := by
        simp [-List.map_take, belowB, Ob.low, AV.lowL, AV.low, stepAV_low]
      rw [← es] at hB
      refine ⟨p.length - (k + 1), by omega, [(9, .int .i64 ((k + 1 : Nat) : Int)), (8, .int .i64 p.length), (7, Path.enc p), (3, .ptr 1 0), (2, .ptr 0 0)],
        ⟨rfl, rfl, rfl, rfl, rfl, trivial⟩, by simp [belowS, AV.low, Path.enc, Step.lowL], hB, k + 1, rfl, by omega, by rw [← es]; rfl, rfl⟩
    · have hn : p[k].name ≠ [] := by simpa using hc
      have es : (p.take k).map stepAV ++ [Val.enc (.mk 4 0 p[k].name [] [])] = (p.take (k + 1)).map stepAV := by rw [← et hn]; exact take_snoc stepAV h1
      have hB : belowB 2 1 [.cells [.int .i64 0, .int .i64 0, .str [], .slice [] .nil, .slice [] .nil], .cells [.int .i64 6, .int .i64 0, .str [], .slice ((p.take (k + 1)).map stepAV) (.own 0 5), .slice [] .nil]] = true := by
        simp [-List.map_take, belowB, Ob.low, AV.lowL, AV.low, stepAV_low]
      rw [← es] at hB
      refine ⟨p.length - (k + 1), by omega, [(9, .int .i64 ((k + 1 : Nat) : Int)), (8, .int .i64 p.length), (7, Path.enc p), (3, .ptr 1 0), (2, .ptr 0 0)],
        ⟨rfl, rfl, rfl, rfl, rfl, trivial⟩, by simp [belowS, AV.low, Path.enc, Step.lowL], hB, k + 1, rfl, by omega, by rw [← es]; rfl, rfl⟩
  · have d1 : decide ((k : Int) < (p.length : Int)) = false := by simp; omega
    have hk2 : k = p.length := by omega
    repeat' first
      | refine HCode.seq ?_ | refine HCode.region rfl ?_ | refine HCode.region_draw Lay.mix rfl ?_ | refine HCode.block ?_ | refine HCode.scope ?_ | refine HCode.skip ?_ | refine HCode.exit ?_ | refine HCode.ret ?_
      | refine HCode.cond_true rfl ?_ | refine HCode.cond_false rfl ?_ | refine HCode.cond_yes rfl (by assumption) ?_ | refine HCode.cond_no rfl (by assumption) ?_ | (refine HCode.cond rfl ?_ ?_ <;> intro hc)
      | refine A.nil_seq ?_ | refine A.nil (fun _ => rfl) ?_ | refine A.dead rfl ?_ | refine A.yes rfl rfl ?_ | refine A.no rfl rfl ?_ | refine A.yes rfl (by assumption) ?_ | refine A.no rfl (by assumption) ?_ | (refine A.guard rfl ?_ ?_ <;> intro hc)
      | refine A.move rfl ?_ | refine A.assign rfl ?_ | refine A.load_b rfl rfl rfl rfl ?_ | refine A.load_r rfl rfl rfl ?_ | refine A.field_b rfl rfl rfl rfl rfl rfl ?_ | refine A.field_r rfl rfl rfl rfl rfl rfl ?_ | refine A.field rfl rfl rfl rfl rfl ?_
      | refine A.index_r rfl rfl rfl rfl rfl rfl (by assumption) rfl ?_ | refine A.len rfl rfl rfl (by first | rw [List.length_map] | rfl) ?_ | refine A.lens rfl rfl rfl rfl ?_
      | refine A.pick_true rfl rfl rfl ?_ | refine A.pick_false rfl rfl rfl ?_ | refine A.pick_true rfl (by assumption) rfl ?_ | refine A.pick_false rfl (by assumption) rfl ?_
      | refine A.box rfl rfl rfl ?_ | refine A.alloc rfl rfl rfl ?_ | refine A.store rfl rfl rfl rfl rfl ?_ | refine A.build rfl rfl rfl rfl ?_ | refine A.buildSlice rfl rfl rfl rfl rfl rfl rfl ?_
      | refine A.eqi rfl rfl ?_ | refine A.nei rfl rfl ?_ | refine A.lss rfl rfl ?_ | refine A.leq rfl rfl ?_ | refine A.gtr rfl rfl ?_ | refine A.geq rfl rfl ?_ | refine A.eqb rfl rfl rfl rfl ?_ | refine A.neb rfl rfl rfl rfl ?_ | refine A.eqs rfl rfl ?_ | refine A.nes rfl rfl ?_ | refine A.lts rfl rfl ?_ | refine A.gts rfl rfl ?_
      | refine A.not rfl ?_ | refine A.extract rfl rfl ?_ | refine A.add64 rfl rfl rfl (by omega) ?_ | refine A.sub64 rfl rfl rfl (by omega) ?_
    subst hk2
    rw [List.take_length]
    exact FinR.ret1 rfl weak_path
theorem rPathValue (p : Path) (hp : p.length ≤ 1048576) : PFn Try.prog 26 [Path.enc p] (Val.enc (pathVal p)) := by
  refine AFn.plain (Val.closed _) (by simp [AV.closedL, AV.closed, Path.enc, Step.closedL]) (AFn.enterR [.cell 2 35] Try.func26 rfl rfl rfl rfl rfl ?_)
  repeat' first
    | refine HCode.seq ?_ | refine HCode.region rfl ?_ | refine HCode.region_draw Lay.mix rfl ?_ | refine HCode.block ?_ | refine HCode.scope ?_ | refine HCode.skip ?_ | refine HCode.exit ?_ | refine HCode.ret ?_
    | refine HCode.cond_true rfl ?_ | refine HCode.cond_false rfl ?_ | refine HCode.cond_yes rfl (by assumption) ?_ | refine HCode.cond_no rfl (by assumption) ?_ | (refine HCode.cond rfl ?_ ?_ <;> intro hc)
    | refine A.nil_seq ?_ | refine A.nil (fun _ => rfl) ?_ | refine A.dead rfl ?_ | refine A.yes rfl rfl ?_ | refine A.no rfl rfl ?_ | refine A.yes rfl (by assumption) ?_ | refine A.no rfl (by assumption) ?_ | (refine A.guard rfl ?_ ?_ <;> intro hc)
    | refine A.move rfl ?_ | refine A.assign rfl ?_ | refine A.load_b rfl rfl rfl rfl ?_ | refine A.load_r rfl rfl rfl ?_ | refine A.field_b rfl rfl rfl rfl rfl rfl ?_ | refine A.field_r rfl rfl rfl rfl rfl rfl ?_ | refine A.field rfl rfl rfl rfl rfl ?_
    | refine A.index_r rfl rfl rfl rfl rfl rfl (by assumption) rfl ?_ | refine A.len rfl rfl rfl (by first | rw [List.length_map] | rfl) ?_ | refine A.lens rfl rfl rfl rfl ?_
    | refine A.pick_true rfl rfl rfl ?_ | refine A.pick_false rfl rfl rfl ?_ | refine A.pick_true rfl (by assumption) rfl ?_ | refine A.pick_false rfl (by assumption) rfl ?_
    | refine A.box rfl rfl rfl ?_ | refine A.alloc rfl rfl rfl ?_ | refine A.store rfl rfl rfl rfl rfl ?_ | refine A.build rfl rfl rfl rfl ?_ | refine A.buildSlice rfl rfl rfl rfl rfl rfl rfl ?_
    | refine A.eqi rfl rfl ?_ | refine A.nei rfl rfl ?_ | refine A.lss rfl rfl ?_ | refine A.leq rfl rfl ?_ | refine A.gtr rfl rfl ?_ | refine A.geq rfl rfl ?_ | refine A.eqb rfl rfl rfl rfl ?_ | refine A.neb rfl rfl rfl rfl ?_ | refine A.eqs rfl rfl ?_ | refine A.nes rfl rfl ?_ | refine A.lts rfl rfl ?_ | refine A.gts rfl rfl ?_
    | refine A.not rfl ?_ | refine A.extract rfl rfl ?_ | refine A.add64 rfl rfl rfl (by omega) ?_ | refine A.sub64 rfl rfl rfl (by omega) ?_
  change HCode _ _ _ _ _ _ _
  refine HCode.adoptB 1 3 true 5 rfl rfl rfl rfl rfl rfl rfl rfl ?_
  refine HCode.loop (fun n s σ => ∃ k : Nat, n = p.length - k ∧ k ≤ p.length ∧
      σ = ⟨[.cells [.int .i64 0, .int .i64 0, .str [], .slice [] .nil, .slice [] .nil], .cells [.int .i64 6, .int .i64 0, .str [], .slice ((p.take k).map stepAV) (.own 0 5), .slice [] .nil]], [k]⟩ ∧
      s = [(4, .int .i64 k), (0, Path.enc p), (3, .ptr 1 0), (2, .ptr 0 0)])
      (s0 := [(4, .int .i64 (0 : Nat)), (0, Path.enc p), (3, .ptr 1 0), (2, .ptr 0 0)])
      ⟨rfl, rfl, rfl, rfl, trivial⟩ ⟨0, rfl, Nat.zero_le _, rfl, rfl⟩ ?_
  rintro n s σ ⟨k, rfl, hk, rfl, rfl⟩
  by_cases h1 : k < p.length
  · have d1 : decide ((k : Int) < (p.length : Int)) = true := by simp [h1]
    have x1 := map_get (f := Step.enc) h1
    have hlen : ((p.take k).map stepAV).length = k := by simp; omega
    have ei : p[k].name = [] → stepAV p[k] = Val.enc (.mk 2 p[k].at_ [] [] []) := fun h => by rw [stepAV, stepVal, if_pos h]
    have et : p[k].name ≠ [] → stepAV p[k] = Val.enc (.mk 4 0 p[k].name [] []) := fun h => by rw [stepAV, stepVal, if_neg h]
    have hi := rInt p[k].at_
    have ht := rText p[k].name
    repeat' first
      | refine HCode.seq ?_ | refine HCode.region rfl ?_ | refine HCode.region_draw Lay.mix rfl ?_ | refine HCode.block ?_ | refine HCode.scope ?_ | refine HCode.skip ?_ | refine HCode.exit ?_ | refine HCode.ret ?_
      | refine HCode.cond_true rfl ?_ | refine HCode.cond_false rfl ?_ | refine HCode.cond_yes rfl (by assumption) ?_ | refine HCode.cond_no rfl (by assumption) ?_ | (refine HCode.cond rfl ?_ ?_ <;> intro hc)
      | refine A.nil_seq ?_ | refine A.nil (fun _ => rfl) ?_ | refine A.dead rfl ?_ | refine A.yes rfl rfl ?_ | refine A.no rfl rfl ?_ | refine A.yes rfl (by assumption) ?_ | refine A.no rfl (by assumption) ?_ | (refine A.guard rfl ?_ ?_ <;> intro hc)
      | refine A.move rfl ?_ | refine A.assign rfl ?_ | refine A.load_b rfl rfl rfl rfl ?_ | refine A.load_r rfl rfl rfl ?_ | refine A.field_b rfl rfl rfl rfl rfl rfl ?_ | refine A.field_r rfl rfl rfl rfl rfl rfl ?_ | refine A.field rfl rfl rfl rfl rfl ?_
      | refine A.index_r rfl rfl rfl rfl rfl rfl (by assumption) rfl ?_ | refine A.len rfl rfl rfl (by first | rw [List.length_map] | rfl) ?_ | refine A.lens rfl rfl rfl rfl ?_
      | refine A.pick_true rfl rfl rfl ?_ | refine A.pick_false rfl rfl rfl ?_ | refine A.pick_true rfl (by assumption) rfl ?_ | refine A.pick_false rfl (by assumption) rfl ?_
      | refine A.box rfl rfl rfl ?_ | refine A.alloc rfl rfl rfl ?_ | refine A.store rfl rfl rfl rfl rfl ?_ | refine A.build rfl rfl rfl rfl ?_ | refine A.buildSlice rfl rfl rfl rfl rfl rfl rfl ?_
      | refine A.eqi rfl rfl ?_ | refine A.nei rfl rfl ?_ | refine A.lss rfl rfl ?_ | refine A.leq rfl rfl ?_ | refine A.gtr rfl rfl ?_ | refine A.geq rfl rfl ?_ | refine A.eqb rfl rfl rfl rfl ?_ | refine A.neb rfl rfl rfl rfl ?_ | refine A.eqs rfl rfl ?_ | refine A.nes rfl rfl ?_ | refine A.lts rfl rfl ?_ | refine A.gts rfl rfl ?_
      | refine A.not rfl ?_ | refine A.extract rfl rfl ?_ | refine A.add64 rfl rfl rfl (by omega) ?_ | refine A.sub64 rfl rfl rfl (by omega) ?_
      | refine A.call rfl hi (WeakL.refl _) ?_ | refine A.call rfl ht (WeakL.refl _) ?_
      | refine A.append (n := k) rfl rfl rfl rfl rfl rfl rfl rfl hlen rfl (by dsimp only [List.length_cons, List.length_nil]; omega) (by dsimp only [List.length_cons, List.length_nil]; omega) rfl ?_
    · have hn : p[k].name ≠ [] := by simpa using hc
      have es : (p.take k).map stepAV ++ [Val.enc (.mk 4 0 p[k].name [] [])] = (p.take (k + 1)).map stepAV := by rw [← et hn]; exact take_snoc stepAV h1
      have hB : belowB 2 1 [.cells [.int .i64 0, .int .i64 0, .str [], .slice [] .nil, .slice [] .nil], .cells [.int .i64 6, .int .i64 0, .str [], .slice ((p.take (k + 1)).map stepAV) (.own 0 5), .slice [] .nil]] = true := by
        simp [-List.map_take, belowB, Ob.low, AV.lowL, AV.low, stepAV_low]
      rw [← es] at hB
      refine ⟨p.length - (k + 1), by omega, [(4, .int .i64 ((k + 1 : Nat) : Int)), (0, Path.enc p), (3, .ptr 1 0), (2, .ptr 0 0)],
        ⟨rfl, rfl, rfl, rfl, trivial⟩, by simp [belowS, AV.low, Path.enc, Step.lowL], hB, k + 1, rfl, by omega, by rw [← es]; rfl, rfl⟩
    · have hn : p[k].name = [] := by simpa using hc
      have es : (p.take k).map stepAV ++ [Val.enc (.mk 2 p[k].at_ [] [] [])] = (p.take (k + 1)).map stepAV := by rw [← ei hn]; exact take_snoc stepAV h1
      have hB : belowB 2 1 [.cells [.int .i64 0, .int .i64 0, .str [], .slice [] .nil, .slice [] .nil], .cells [.int .i64 6, .int .i64 0, .str [], .slice ((p.take (k + 1)).map stepAV) (.own 0 5), .slice [] .nil]] = true := by
        simp [-List.map_take, belowB, Ob.low, AV.lowL, AV.low, stepAV_low]
      rw [← es] at hB
      refine ⟨p.length - (k + 1), by omega, [(4, .int .i64 ((k + 1 : Nat) : Int)), (0, Path.enc p), (3, .ptr 1 0), (2, .ptr 0 0)],
        ⟨rfl, rfl, rfl, rfl, trivial⟩, by simp [belowS, AV.low, Path.enc, Step.lowL], hB, k + 1, rfl, by omega, by rw [← es]; rfl, rfl⟩
  · have d1 : decide ((k : Int) < (p.length : Int)) = false := by simp; omega
    have hk2 : k = p.length := by omega
    repeat' first
      | refine HCode.seq ?_ | refine HCode.region rfl ?_ | refine HCode.region_draw Lay.mix rfl ?_ | refine HCode.block ?_ | refine HCode.scope ?_ | refine HCode.skip ?_ | refine HCode.exit ?_ | refine HCode.ret ?_
      | refine HCode.cond_true rfl ?_ | refine HCode.cond_false rfl ?_ | refine HCode.cond_yes rfl (by assumption) ?_ | refine HCode.cond_no rfl (by assumption) ?_ | (refine HCode.cond rfl ?_ ?_ <;> intro hc)
      | refine A.nil_seq ?_ | refine A.nil (fun _ => rfl) ?_ | refine A.dead rfl ?_ | refine A.yes rfl rfl ?_ | refine A.no rfl rfl ?_ | refine A.yes rfl (by assumption) ?_ | refine A.no rfl (by assumption) ?_ | (refine A.guard rfl ?_ ?_ <;> intro hc)
      | refine A.move rfl ?_ | refine A.assign rfl ?_ | refine A.load_b rfl rfl rfl rfl ?_ | refine A.load_r rfl rfl rfl ?_ | refine A.field_b rfl rfl rfl rfl rfl rfl ?_ | refine A.field_r rfl rfl rfl rfl rfl rfl ?_ | refine A.field rfl rfl rfl rfl rfl ?_
      | refine A.index_r rfl rfl rfl rfl rfl rfl (by assumption) rfl ?_ | refine A.len rfl rfl rfl (by first | rw [List.length_map] | rfl) ?_ | refine A.lens rfl rfl rfl rfl ?_
      | refine A.pick_true rfl rfl rfl ?_ | refine A.pick_false rfl rfl rfl ?_ | refine A.pick_true rfl (by assumption) rfl ?_ | refine A.pick_false rfl (by assumption) rfl ?_
      | refine A.box rfl rfl rfl ?_ | refine A.alloc rfl rfl rfl ?_ | refine A.store rfl rfl rfl rfl rfl ?_ | refine A.build rfl rfl rfl rfl ?_ | refine A.buildSlice rfl rfl rfl rfl rfl rfl rfl ?_
      | refine A.eqi rfl rfl ?_ | refine A.nei rfl rfl ?_ | refine A.lss rfl rfl ?_ | refine A.leq rfl rfl ?_ | refine A.gtr rfl rfl ?_ | refine A.geq rfl rfl ?_ | refine A.eqb rfl rfl rfl rfl ?_ | refine A.neb rfl rfl rfl rfl ?_ | refine A.eqs rfl rfl ?_ | refine A.nes rfl rfl ?_ | refine A.lts rfl rfl ?_ | refine A.gts rfl rfl ?_
      | refine A.not rfl ?_ | refine A.extract rfl rfl ?_ | refine A.add64 rfl rfl rfl (by omega) ?_ | refine A.sub64 rfl rfl rfl (by omega) ?_
    subst hk2
    rw [List.take_length]
    exact FinR.ret1 rfl weak_path

theorem pathVal_same (p : Path) : sameV (pathVal p) (pathVal p) = true := by
  have h1 : ∀ x : Step, sameV (stepVal x) (stepVal x) = true := by
    intro x
    rw [sameV_eq]
    unfold stepVal
    split <;> simp [Val.kind, Val.n, Val.s, Val.l, Val.m] <;> (rw [sameL, sameM]; simp)
  have h2 : ∀ l : List Step, sameL (l.map stepVal) (l.map stepVal) = true := by
    intro l
    induction l with
    | nil => rw [List.map_nil, sameL]
    | cons x l ih => rw [List.map_cons, sameL, h1, ih]; rfl
  rw [sameV_eq]
  simp [pathVal, Val.kind, Val.n, Val.s, Val.l, Val.m, h2]
  rw [sameM]
theorem pathVal_size (p : Path) (h : sumSize Step.size p ≤ 1048576) : (pathVal p).size ≤ 9223372036854775807 := by
  have h1 : ∀ l : List Step, sumSize Val.size (l.map stepVal) ≤ 7 * sumSize Step.size l := by
    intro l
    induction l with
    | nil => exact Nat.le_refl _
    | cons x l ih =>
      have : (stepVal x).size ≤ 7 * x.size := by
        unfold stepVal
        split <;> rw [Val.size_eq] <;> simp [Val.s, Val.l, Val.m, sumSize, Step.size] <;> omega
      simp only [List.map_cons, sumSize]
      omega
  have := h1 p
  rw [Val.size_eq]
  simp only [pathVal, Val.s, Val.l, Val.m, sumSize, List.length_nil]
  omega

theorem pathSays (a b : Path) (ha : sumSize Step.size a ≤ 1048576) (hb : sumSize Step.size b ≤ 1048576) :
    PFn Try.prog 5 [Path.enc a, Path.enc b] (.bool true) := by
  have la := Nat.le_trans (sumSize_length (size := Step.size) (fun a => by simp [Step.size]) a) ha
  have lb := Nat.le_trans (sumSize_length (size := Step.size) (fun a => by simp [Step.size]) b) hb
  refine AFn.plain rfl (Path.closed2 a b) (AFn.enter [4] Try.func5 rfl rfl rfl rfl rfl (by decide) ?_)
  have s1 := small a (by omega)
  have s2 := small b (by omega)
  have e1 := same a b (by omega)
  have e2 := rSame a b (by omega)
  have l1 := less a b (by omega)
  have l2 := rLess a b (by omega)
  have u1 := under a b (by omega)
  have u2 := rUnder a b (by omega)
  have v1 := pathValue a la
  have v2 := rPathValue a la
  have vv := pathVal_same a ▸ same1 (pathVal a) (pathVal a) (pathVal_size a ha)
  generalize hx : (pathCmp a b == 0) = x at *
  generalize hy : decide (pathCmp a b < 0) = y at *
  generalize hz : isUnder a b = z at *
  have q1 : (x == x) = true := by simp
  have q2 : (y == y) = true := by simp
  have q3 : (z == z) = true := by simp
  repeat' first
    | refine HCode.seq ?_ | refine HCode.region rfl ?_ | refine HCode.region_draw Lay.mix rfl ?_ | refine HCode.block ?_ | refine HCode.scope ?_ | refine HCode.skip ?_ | refine HCode.exit ?_ | refine HCode.ret ?_
    | refine HCode.cond_true rfl ?_ | refine HCode.cond_false rfl ?_ | refine HCode.cond_yes rfl (by assumption) ?_ | refine HCode.cond_no rfl (by assumption) ?_ | (refine HCode.cond rfl ?_ ?_ <;> intro hc)
    | refine A.nil_seq ?_ | refine A.nil (fun _ => rfl) ?_ | refine A.dead rfl ?_ | refine A.yes rfl rfl ?_ | refine A.no rfl rfl ?_ | refine A.yes rfl (by assumption) ?_ | refine A.no rfl (by assumption) ?_ | (refine A.guard rfl ?_ ?_ <;> intro hc)
    | refine A.move rfl ?_ | refine A.assign rfl ?_ | refine A.load_b rfl rfl rfl rfl ?_ | refine A.load_r rfl rfl rfl ?_ | refine A.field_b rfl rfl rfl rfl rfl rfl ?_ | refine A.field_r rfl rfl rfl rfl rfl rfl ?_ | refine A.field rfl rfl rfl rfl rfl ?_
    | refine A.index_r rfl rfl rfl rfl rfl rfl (by assumption) rfl ?_ | refine A.len rfl rfl rfl (by first | rw [List.length_map] | rfl) ?_ | refine A.lens rfl rfl rfl rfl ?_
    | refine A.pick_true rfl rfl rfl ?_ | refine A.pick_false rfl rfl rfl ?_ | refine A.pick_true rfl (by assumption) rfl ?_ | refine A.pick_false rfl (by assumption) rfl ?_
    | refine A.box rfl rfl rfl ?_ | refine A.alloc rfl rfl rfl ?_ | refine A.store rfl rfl rfl rfl rfl ?_ | refine A.build rfl rfl rfl rfl ?_ | refine A.buildSlice rfl rfl rfl rfl rfl rfl rfl ?_
    | refine A.eqi rfl rfl ?_ | refine A.nei rfl rfl ?_ | refine A.lss rfl rfl ?_ | refine A.leq rfl rfl ?_ | refine A.gtr rfl rfl ?_ | refine A.geq rfl rfl ?_ | refine A.eqb rfl rfl rfl rfl ?_ | refine A.neb rfl rfl rfl rfl ?_ | refine A.eqs rfl rfl ?_ | refine A.nes rfl rfl ?_ | refine A.lts rfl rfl ?_ | refine A.gts rfl rfl ?_
    | refine A.not rfl ?_ | refine A.extract rfl rfl ?_ | refine A.add64 rfl rfl rfl (by omega) ?_ | refine A.sub64 rfl rfl rfl (by omega) ?_
    | refine A.call rfl s1 (WeakL.refl _) ?_ | refine A.call rfl s2 (WeakL.refl _) ?_ | refine A.call rfl e1 (WeakL.refl _) ?_ | refine A.call rfl e2 (WeakL.refl _) ?_ | refine A.call rfl l1 (WeakL.refl _) ?_ | refine A.call rfl l2 (WeakL.refl _) ?_
    | refine A.call rfl u1 (WeakL.refl _) ?_ | refine A.call rfl u2 (WeakL.refl _) ?_ | refine A.call rfl v1 (WeakL.refl _) ?_ | refine A.call rfl v2 (WeakL.refl _) ?_ | refine A.call rfl vv (WeakL.refl _) ?_ | refine A.call rfl awake (WeakL.refl _) ?_
  all_goals exact Fin.ret1 rfl (Weak.refl _)
end Go.Proofs.Ytaapdhocpadjaaa
