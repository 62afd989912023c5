/-
  The library's stable sort of faults: insertion, exchanging, rotating.
-/
import Derived.Test.YtajddgpkflbnaaaAvRen4
import Derived.Test.YtajddgpkflbnaaaAvMore
import Derived.Test.YtajddgpkflbnaaaMPathB
import Derived.Test.YtajddgpkflbnaaaMSortQ
namespace Go.Proofs.Ytajddgpkflbnaaa
open Go Go.Av
set_option maxRecDepth 100000
set_option maxHeartbeats 8000000
set_option linter.unusedVariables false
set_option linter.unusedSimpArgs false
attribute [local irreducible] HCode AOps PFn AFn Av.Step TStep

structure Flt where
  path : Path
  e : Int
def Flt.enc (a : Flt) : AV := .agg [Path.enc a.path, .int .i64 a.e]
def fltCmp (a b : Flt) : Int := pathCmp a.path b.path
theorem fltCmp_cmp : Cmp fltCmp := cmp_of Flt.path pathCmp_cmp
theorem Flt.closed (a : Flt) : a.enc.closed = true := by simp [Flt.enc, AV.closed, AV.closedL, Path.enc, Step.closedL]
theorem Flt.closedL (l : List Flt) : AV.closedL (l.map Flt.enc) = true := closedL_map Flt.closed l
theorem Flt.lowL (n m : Nat) (l : List Flt) : AV.lowL n m (l.map Flt.enc) = true := AV.lowL_of_closed n m _ (Flt.closedL l)
def fcl : AV := .fn (.func 72) [] []

theorem sortCmp (a b : Flt) : PFn Try.prog 72 [a.enc, b.enc] (.int .i64 (fltCmp a b)) := by
  refine PFn.bounded (b := a.path.length ≤ 9223372036854775807) ⟨_, Try.func72, rfl, rfl⟩ (by simp [AV.closedL, Flt.closed]) ?_ (fun hb => ?_)
  · rintro g w vs ⟨v, rest, -, ⟨cs, -, hl, -⟩, -⟩
    obtain ⟨v1, r1, -, h1, -⟩ := hl
    have := rep_len h1
    simp [maxLen] at this
    omega
  · refine AFn.plain rfl (by simp [AV.closedL, Flt.closed]) (AFn.enter [4] Try.func72 rfl rfl rfl rfl rfl (by decide) ?_)
    have hcc := compareFunc a.path b.path hb
    repeat' first
      | refine A.box_r rfl rfl ?_
      | refine HCode.seq ?_ | refine HCode.region rfl ?_ | refine HCode.region_draw Lay.mix rfl ?_ | refine HCode.block ?_ | refine HCode.scope ?_ | refine HCode.skip ?_ | refine HCode.label ?_ | refine HCode.exit ?_ | refine HCode.ret ?_
      | refine HCode.cond_true rfl ?_ | refine HCode.cond_false rfl ?_ | refine HCode.cond_yes rfl (by assumption) ?_ | refine HCode.cond_no rfl (by assumption) ?_ | (refine HCode.cond rfl ?_ ?_ <;> intro hc)
      | refine A.nil_seq ?_ | refine A.nil (fun _ => rfl) ?_ | refine A.dead rfl ?_ | refine A.yes rfl rfl ?_ | refine A.no rfl rfl ?_ | refine A.yes rfl (by assumption) ?_ | refine A.no rfl (by assumption) ?_ | (refine A.guard rfl ?_ ?_ <;> intro hc)
      | refine A.move rfl ?_ | refine A.assign rfl ?_ | refine A.load_b rfl rfl rfl rfl ?_ | refine A.load_r rfl rfl rfl ?_ | refine A.field_b rfl rfl rfl rfl rfl rfl ?_ | refine A.field_r rfl rfl rfl rfl rfl rfl ?_ | refine A.field rfl rfl rfl rfl rfl ?_
      | refine A.index_r rfl rfl rfl rfl rfl rfl (by assumption) rfl ?_ | refine A.len rfl rfl rfl (by first | rw [List.length_map] | rfl) ?_ | refine A.lens rfl rfl rfl rfl ?_
      | refine A.pick_true rfl rfl rfl ?_ | refine A.pick_false rfl rfl rfl ?_ | refine A.pick_true rfl (by assumption) rfl ?_ | refine A.pick_false rfl (by assumption) rfl ?_
      | refine A.box rfl rfl rfl ?_ | refine A.alloc rfl rfl rfl ?_ | refine A.store rfl rfl rfl rfl rfl ?_ | refine A.build rfl rfl rfl rfl ?_ | refine A.buildSlice rfl rfl rfl rfl rfl rfl rfl ?_
      | refine A.eqi rfl rfl ?_ | refine A.nei rfl rfl ?_ | refine A.lss rfl rfl ?_ | refine A.leq rfl rfl ?_ | refine A.gtr rfl rfl ?_ | refine A.geq rfl rfl ?_ | refine A.eqb rfl rfl rfl rfl ?_ | refine A.neb rfl rfl rfl rfl ?_ | refine A.eqs rfl rfl ?_ | refine A.nes rfl rfl ?_ | refine A.lts rfl rfl ?_ | refine A.gts rfl rfl ?_
      | refine A.not rfl ?_ | refine A.extract rfl rfl ?_ | refine A.add64 rfl rfl rfl (by omega) ?_ | refine A.sub64 rfl rfl rfl (by omega) ?_
      | refine A.call rfl hcc (WeakL.refl _) ?_
    exact Fin.ret1 rfl (Weak.refl _)

theorem Seg.mapLen {a b : Nat} {xs L : List Flt} (h : Seg fltCmp a b xs L) : (L.map Flt.enc).length = xs.length := by rw [List.length_map, h.len]
theorem map_sw (L : List Flt) (j : Nat) (x y : Flt) : ((L.map Flt.enc).set (j + 1) x.enc).set j y.enc = (sw L j x y).map Flt.enc := by
  unfold sw; simp [List.map_set]

theorem insertion (xs : List Flt) (a b : Nat) (hab : a ≤ b) (hb : b ≤ xs.length) (hN : xs.length ≤ 1048576) :
    AFn Try.prog 98 [.vec 0 2 xs.length 0 xs.length, .int .i64 a, .int .i64 b, fcl] ⟨[], [.vec (xs.map Flt.enc)]⟩
      (fun e σ => e = .ret (.tup []) ∧ σ = ⟨[], [.vec ((segSort fltCmp a b xs).map Flt.enc)]⟩) := by
  refine AFn.enter [] Try.func98 rfl rfl rfl rfl rfl (by decide) ?_
  have hs0 : ((a : Int) + 1 = ((a + 1 : Nat) : Int)) := by omega
  repeat' first
    | refine HCode.seq ?_ | refine HCode.region rfl ?_ | refine HCode.region_draw Lay.mix rfl ?_ | refine HCode.block ?_ | refine HCode.scope ?_ | refine HCode.skip ?_ | refine HCode.label ?_ | refine HCode.exit ?_ | refine HCode.ret ?_
    | refine HCode.cond_true rfl ?_ | refine HCode.cond_false rfl ?_ | refine HCode.cond_yes rfl (by assumption) ?_ | refine HCode.cond_no rfl (by assumption) ?_ | (refine HCode.cond rfl ?_ ?_ <;> intro hc)
    | refine A.nil_seq ?_ | refine A.nil (fun _ => rfl) ?_ | refine A.dead rfl ?_ | refine A.yes rfl rfl ?_ | refine A.no rfl rfl ?_ | refine A.yes rfl (by assumption) ?_ | refine A.no rfl (by assumption) ?_ | (refine A.guard rfl ?_ ?_ <;> intro hc)
    | refine A.move rfl ?_ | refine A.assign rfl ?_ | refine A.load_b rfl rfl rfl rfl ?_ | refine A.load_r rfl rfl rfl ?_ | refine A.field_b rfl rfl rfl rfl rfl rfl ?_ | refine A.field_r rfl rfl rfl rfl rfl rfl ?_ | refine A.field rfl rfl rfl rfl rfl ?_
    | refine A.index_r rfl rfl rfl rfl rfl rfl (by assumption) rfl ?_ | refine A.len rfl rfl rfl (by first | rw [List.length_map] | rfl) ?_ | refine A.lens rfl rfl rfl rfl ?_
    | refine A.pick_true rfl rfl rfl ?_ | refine A.pick_false rfl rfl rfl ?_ | refine A.pick_true rfl (by assumption) rfl ?_ | refine A.pick_false rfl (by assumption) rfl ?_
    | refine A.box rfl rfl rfl ?_ | refine A.alloc rfl rfl rfl ?_ | refine A.store rfl rfl rfl rfl rfl ?_ | refine A.build rfl rfl rfl rfl ?_ | refine A.buildSlice rfl rfl rfl rfl rfl rfl rfl ?_
    | refine A.eqi rfl rfl ?_ | refine A.nei rfl rfl ?_ | refine A.lss rfl rfl ?_ | refine A.leq rfl rfl ?_ | refine A.gtr rfl rfl ?_ | refine A.geq rfl rfl ?_ | refine A.eqb rfl rfl rfl rfl ?_ | refine A.neb rfl rfl rfl rfl ?_ | refine A.eqs rfl rfl ?_ | refine A.nes rfl rfl ?_ | refine A.lts rfl rfl ?_ | refine A.gts rfl rfl ?_
    | refine A.not rfl ?_ | refine A.extract rfl rfl ?_ | refine A.add64 rfl rfl rfl (by omega) ?_ | refine A.sub64 rfl rfl rfl (by omega) ?_
    | refine A.add64 (r := ((a + 1 : Nat) : Int)) rfl rfl (by omega) (by omega) ?_
  change HCode _ _ _ _ _ _ _
  refine HCode.loop (fun n s σ => ∃ (i : Nat) (L : List Flt), n = b - i ∧ a + 1 ≤ i ∧ Seg fltCmp a b xs L ∧ SrtIx fltCmp a i L ∧ σ = ⟨[], [.vec (L.map Flt.enc)]⟩ ∧
    s = [(8, .int .i64 i), (0, .vec 0 2 xs.length 0 xs.length), (1, .int .i64 a), (2, .int .i64 b), (3, fcl)])
    (s0 := [(8, .int .i64 ((a + 1 : Nat) : Int)), (0, .vec 0 2 xs.length 0 xs.length), (1, .int .i64 a), (2, .int .i64 b), (3, fcl)])
    ⟨rfl, rfl, rfl, rfl, rfl, trivial⟩ ⟨a + 1, xs, rfl, Nat.le_refl _, Seg.refl _ _ _, srt_one (Nat.le_refl _), rfl, rfl⟩ ?_
  rintro n s σ ⟨i, L, rfl, hai, hL, hS, rfl, rfl⟩
  by_cases h1 : i < b
  · have d1 : decide ((i : Int) < (b : Int)) = true := by simp [h1]
    repeat' first
      | refine HCode.seq ?_ | refine HCode.region rfl ?_ | refine HCode.region_draw Lay.mix rfl ?_ | refine HCode.block ?_ | refine HCode.scope ?_ | refine HCode.skip ?_ | refine HCode.label ?_ | refine HCode.exit ?_ | refine HCode.ret ?_
      | refine HCode.cond_true rfl ?_ | refine HCode.cond_false rfl ?_ | refine HCode.cond_yes rfl (by assumption) ?_ | refine HCode.cond_no rfl (by assumption) ?_ | (refine HCode.cond rfl ?_ ?_ <;> intro hc)
      | refine A.nil_seq ?_ | refine A.nil (fun _ => rfl) ?_ | refine A.dead rfl ?_ | refine A.yes rfl rfl ?_ | refine A.no rfl rfl ?_ | refine A.yes rfl (by assumption) ?_ | refine A.no rfl (by assumption) ?_ | (refine A.guard rfl ?_ ?_ <;> intro hc)
      | refine A.move rfl ?_ | refine A.assign rfl ?_ | refine A.load_b rfl rfl rfl rfl ?_ | refine A.load_r rfl rfl rfl ?_ | refine A.field_b rfl rfl rfl rfl rfl rfl ?_ | refine A.field_r rfl rfl rfl rfl rfl rfl ?_ | refine A.field rfl rfl rfl rfl rfl ?_
      | refine A.index_r rfl rfl rfl rfl rfl rfl (by assumption) rfl ?_ | refine A.len rfl rfl rfl (by first | rw [List.length_map] | rfl) ?_ | refine A.lens rfl rfl rfl rfl ?_
      | refine A.pick_true rfl rfl rfl ?_ | refine A.pick_false rfl rfl rfl ?_ | refine A.pick_true rfl (by assumption) rfl ?_ | refine A.pick_false rfl (by assumption) rfl ?_
      | refine A.box rfl rfl rfl ?_ | refine A.alloc rfl rfl rfl ?_ | refine A.store rfl rfl rfl rfl rfl ?_ | refine A.build rfl rfl rfl rfl ?_ | refine A.buildSlice rfl rfl rfl rfl rfl rfl rfl ?_
      | refine A.eqi rfl rfl ?_ | refine A.nei rfl rfl ?_ | refine A.lss rfl rfl ?_ | refine A.leq rfl rfl ?_ | refine A.gtr rfl rfl ?_ | refine A.geq rfl rfl ?_ | refine A.eqb rfl rfl rfl rfl ?_ | refine A.neb rfl rfl rfl rfl ?_ | refine A.eqs rfl rfl ?_ | refine A.nes rfl rfl ?_ | refine A.lts rfl rfl ?_ | refine A.gts rfl rfl ?_
      | refine A.not rfl ?_ | refine A.extract rfl rfl ?_ | refine A.add64 rfl rfl rfl (by omega) ?_ | refine A.sub64 rfl rfl rfl (by omega) ?_
    change HCode _ _ _ _ _ _ _
    refine HCode.loop (fun n s σ => ∃ (j : Nat) (L : List Flt), n = j - a ∧ a ≤ j ∧ j ≤ i ∧ Seg fltCmp a b xs L ∧ Going fltCmp a i j L ∧ σ = ⟨[], [.vec (L.map Flt.enc)]⟩ ∧
      s = [(9, .int .i64 j), (8, .int .i64 i), (0, .vec 0 2 xs.length 0 xs.length), (1, .int .i64 a), (2, .int .i64 b), (3, fcl)])
      (s0 := [(9, .int .i64 i), (8, .int .i64 i), (0, .vec 0 2 xs.length 0 xs.length), (1, .int .i64 a), (2, .int .i64 b), (3, fcl)])
      ⟨rfl, rfl, rfl, rfl, rfl, rfl, trivial⟩ ⟨i, L, rfl, by omega, Nat.le_refl _, hL, Going.start hS, rfl, rfl⟩ ?_
    clear hL hS
    rintro n s σ ⟨j, L, rfl, haj, hji, hL, hG, rfl, rfl⟩
    have hlen : (L.map Flt.enc).length = xs.length := hL.mapLen
    by_cases h2 : a < j
    · obtain ⟨k, rfl⟩ : ∃ k, j = k + 1 := ⟨j - 1, by omega⟩
      have d2 : decide ((a : Int) < ((k + 1 : Nat) : Int)) = true := by simp; omega
      have hLl := hL.len
      have hk : k < L.length := by omega
      have hk1 : k + 1 < L.length := by omega
      have e1 : L[k]? = some L[k] := List.getElem?_eq_getElem hk
      have e2 : L[k + 1]? = some L[k + 1] := List.getElem?_eq_getElem hk1
      have x1 : (L.map Flt.enc)[k]? = some (L[k].enc) := by rw [List.getElem?_map, e1]; rfl
      have x2 : (L.map Flt.enc)[k + 1]? = some (L[k + 1].enc) := by rw [List.getElem?_map, e2]; rfl
      have hb1 : k < xs.length - 0 := by omega
      have hb2 : k + 1 < xs.length - 0 := by omega
      have hcc := sortCmp L[k + 1] L[k]
      have hlen2 : ((L.map Flt.enc).set (k + 1) L[k].enc).length = xs.length := by rw [List.length_set]; exact hlen
      have x3 : ((L.map Flt.enc).set (k + 1) L[k].enc)[k]? = some (L[k].enc) := by rw [List.getElem?_set_ne (by omega)]; exact x1
      repeat' first
        | refine A.sub64 (r := ((k : Nat) : Int)) rfl rfl (by omega) (by omega) ?_
        | refine HCode.seq ?_ | refine HCode.region rfl ?_ | refine HCode.region_draw Lay.mix rfl ?_ | refine HCode.block ?_ | refine HCode.scope ?_ | refine HCode.skip ?_ | refine HCode.label ?_ | refine HCode.exit ?_ | refine HCode.ret ?_
        | refine HCode.cond_true rfl ?_ | refine HCode.cond_false rfl ?_ | refine HCode.cond_yes rfl (by assumption) ?_ | refine HCode.cond_no rfl (by assumption) ?_ | (refine HCode.cond rfl ?_ ?_ <;> intro hc)
        | refine A.nil_seq ?_ | refine A.nil (fun _ => rfl) ?_ | refine A.dead rfl ?_ | refine A.yes rfl rfl ?_ | refine A.no rfl rfl ?_ | refine A.yes rfl (by assumption) ?_ | refine A.no rfl (by assumption) ?_ | (refine A.guard rfl ?_ ?_ <;> intro hc)
        | refine A.move rfl ?_ | refine A.assign rfl ?_ | refine A.load_b rfl rfl rfl rfl ?_ | refine A.load_r rfl rfl rfl ?_ | refine A.field_b rfl rfl rfl rfl rfl rfl ?_ | refine A.field_r rfl rfl rfl rfl rfl rfl ?_ | refine A.field rfl rfl rfl rfl rfl ?_
        | refine A.index_r rfl rfl rfl rfl rfl rfl (by assumption) rfl ?_ | refine A.len rfl rfl rfl (by first | rw [List.length_map] | rfl) ?_ | refine A.lens rfl rfl rfl rfl ?_
        | refine A.pick_true rfl rfl rfl ?_ | refine A.pick_false rfl rfl rfl ?_ | refine A.pick_true rfl (by assumption) rfl ?_ | refine A.pick_false rfl (by assumption) rfl ?_
        | refine A.box rfl rfl rfl ?_ | refine A.alloc rfl rfl rfl ?_ | refine A.store rfl rfl rfl rfl rfl ?_ | refine A.build rfl rfl rfl rfl ?_ | refine A.buildSlice rfl rfl rfl rfl rfl rfl rfl ?_
        | refine A.eqi rfl rfl ?_ | refine A.nei rfl rfl ?_ | refine A.lss rfl rfl ?_ | refine A.leq rfl rfl ?_ | refine A.gtr rfl rfl ?_ | refine A.geq rfl rfl ?_ | refine A.eqb rfl rfl rfl rfl ?_ | refine A.neb rfl rfl rfl rfl ?_ | refine A.eqs rfl rfl ?_ | refine A.nes rfl rfl ?_ | refine A.lts rfl rfl ?_ | refine A.gts rfl rfl ?_
        | refine A.not rfl ?_ | refine A.extract rfl rfl ?_ | refine A.add64 rfl rfl rfl (by omega) ?_ | refine A.sub64 rfl rfl rfl (by omega) ?_
        | refine A.vindex rfl rfl rfl rfl rfl rfl rfl (by assumption) (Nat.zero_add _) ?_ | refine A.vfield rfl rfl rfl rfl rfl rfl ?_ | refine A.vload rfl rfl rfl (by assumption) (by assumption) rfl ?_ | refine A.vlen rfl rfl rfl rfl ?_ | refine A.callv rfl rfl hcc (WeakL.refl _) ?_ | refine A.vstore (agg := true) rfl rfl rfl rfl rfl hlen x2 rfl rfl rfl rfl ?_ | refine A.vstore (agg := true) rfl rfl rfl rfl rfl hlen2 x3 rfl rfl rfl rfl ?_
      · have hlt : fltCmp L[k + 1] L[k] < 0 := by simpa using hc
        have hsw : ((L.map Flt.enc).set (k + 1) (AV.agg [L[k].path.enc, .int .i64 L[k].e])).set k (AV.agg [L[k + 1].path.enc, .int .i64 L[k + 1].e]) = (sw L k L[k] L[k + 1]).map Flt.enc := map_sw L k _ _
        refine ⟨k - a, by omega, [(9, .int .i64 ((k : Nat) : Int)), (8, .int .i64 i), (0, .vec 0 2 xs.length 0 xs.length), (1, .int .i64 a), (2, .int .i64 b), (3, fcl)],
          ⟨rfl, rfl, rfl, rfl, rfl, rfl, trivial⟩, rfl, ?_, k, sw L k L[k] L[k + 1], rfl, by omega, by omega, hL.trans ((sw_seg fltCmp_cmp e1 e2 hlt).wide (by omega) (by omega)), hG.step fltCmp_cmp (by omega) hji e1 e2 hlt, ?_, rfl⟩
        · rw [hsw]
          simp [belowB, belowT, Tok.low, Flt.lowL, -List.map_set]
        · rw [hsw]
          rfl
      · have hge : ¬ fltCmp L[k + 1] L[k] < 0 := by simpa using hc
        have hst := hG.stop fltCmp_cmp haj hji (by omega) (fun _ x y f1 f2 => by
          rw [show k + 1 - 1 = k by omega, e1] at f1
          rw [e2] at f2
          cases f1; cases f2
          exact hge)
        refine ⟨b - (i + 1), by omega, [(8, .int .i64 ((i + 1 : Nat) : Int)), (0, .vec 0 2 xs.length 0 xs.length), (1, .int .i64 a), (2, .int .i64 b), (3, fcl)],
          ⟨rfl, rfl, rfl, rfl, rfl, trivial⟩, rfl, ?_, i + 1, L, rfl, by omega, hL, hst, rfl, rfl⟩
        simp [belowB, belowT, Tok.low, Flt.lowL]
    · have d2 : decide ((a : Int) < (j : Int)) = false := by simp; omega
      have hst := hG.stop fltCmp_cmp haj hji (by have := hL.len; omega) (fun h => by omega)
      repeat' first
        | refine HCode.seq ?_ | refine HCode.region rfl ?_ | refine HCode.region_draw Lay.mix rfl ?_ | refine HCode.block ?_ | refine HCode.scope ?_ | refine HCode.skip ?_ | refine HCode.label ?_ | refine HCode.exit ?_ | refine HCode.ret ?_
        | refine HCode.cond_true rfl ?_ | refine HCode.cond_false rfl ?_ | refine HCode.cond_yes rfl (by assumption) ?_ | refine HCode.cond_no rfl (by assumption) ?_ | (refine HCode.cond rfl ?_ ?_ <;> intro hc)
        | refine A.nil_seq ?_ | refine A.nil (fun _ => rfl) ?_ | refine A.dead rfl ?_ | refine A.yes rfl rfl ?_ | refine A.no rfl rfl ?_ | refine A.yes rfl (by assumption) ?_ | refine A.no rfl (by assumption) ?_ | (refine A.guard rfl ?_ ?_ <;> intro hc)
        | refine A.move rfl ?_ | refine A.assign rfl ?_ | refine A.load_b rfl rfl rfl rfl ?_ | refine A.load_r rfl rfl rfl ?_ | refine A.field_b rfl rfl rfl rfl rfl rfl ?_ | refine A.field_r rfl rfl rfl rfl rfl rfl ?_ | refine A.field rfl rfl rfl rfl rfl ?_
        | refine A.index_r rfl rfl rfl rfl rfl rfl (by assumption) rfl ?_ | refine A.len rfl rfl rfl (by first | rw [List.length_map] | rfl) ?_ | refine A.lens rfl rfl rfl rfl ?_
        | refine A.pick_true rfl rfl rfl ?_ | refine A.pick_false rfl rfl rfl ?_ | refine A.pick_true rfl (by assumption) rfl ?_ | refine A.pick_false rfl (by assumption) rfl ?_
        | refine A.box rfl rfl rfl ?_ | refine A.alloc rfl rfl rfl ?_ | refine A.store rfl rfl rfl rfl rfl ?_ | refine A.build rfl rfl rfl rfl ?_ | refine A.buildSlice rfl rfl rfl rfl rfl rfl rfl ?_
        | refine A.eqi rfl rfl ?_ | refine A.nei rfl rfl ?_ | refine A.lss rfl rfl ?_ | refine A.leq rfl rfl ?_ | refine A.gtr rfl rfl ?_ | refine A.geq rfl rfl ?_ | refine A.eqb rfl rfl rfl rfl ?_ | refine A.neb rfl rfl rfl rfl ?_ | refine A.eqs rfl rfl ?_ | refine A.nes rfl rfl ?_ | refine A.lts rfl rfl ?_ | refine A.gts rfl rfl ?_
        | refine A.not rfl ?_ | refine A.extract rfl rfl ?_ | refine A.add64 rfl rfl rfl (by omega) ?_ | refine A.sub64 rfl rfl rfl (by omega) ?_
      refine ⟨b - (i + 1), by omega, [(8, .int .i64 ((i + 1 : Nat) : Int)), (0, .vec 0 2 xs.length 0 xs.length), (1, .int .i64 a), (2, .int .i64 b), (3, fcl)],
          ⟨rfl, rfl, rfl, rfl, rfl, trivial⟩, rfl, ?_, i + 1, L, rfl, by omega, hL, hst, rfl, rfl⟩
      simp [belowB, belowT, Tok.low, Flt.lowL]
  · have d1 : decide ((i : Int) < (b : Int)) = false := by simp; omega
    have := seg_sorted fltCmp_cmp hab hb hL (hS.part (Nat.le_refl _) (by omega))
    repeat' first
      | refine HCode.seq ?_ | refine HCode.region rfl ?_ | refine HCode.region_draw Lay.mix rfl ?_ | refine HCode.block ?_ | refine HCode.scope ?_ | refine HCode.skip ?_ | refine HCode.label ?_ | refine HCode.exit ?_ | refine HCode.ret ?_
      | refine HCode.cond_true rfl ?_ | refine HCode.cond_false rfl ?_ | refine HCode.cond_yes rfl (by assumption) ?_ | refine HCode.cond_no rfl (by assumption) ?_ | (refine HCode.cond rfl ?_ ?_ <;> intro hc)
      | refine A.nil_seq ?_ | refine A.nil (fun _ => rfl) ?_ | refine A.dead rfl ?_ | refine A.yes rfl rfl ?_ | refine A.no rfl rfl ?_ | refine A.yes rfl (by assumption) ?_ | refine A.no rfl (by assumption) ?_ | (refine A.guard rfl ?_ ?_ <;> intro hc)
      | refine A.move rfl ?_ | refine A.assign rfl ?_ | refine A.load_b rfl rfl rfl rfl ?_ | refine A.load_r rfl rfl rfl ?_ | refine A.field_b rfl rfl rfl rfl rfl rfl ?_ | refine A.field_r rfl rfl rfl rfl rfl rfl ?_ | refine A.field rfl rfl rfl rfl rfl ?_
      | refine A.index_r rfl rfl rfl rfl rfl rfl (by assumption) rfl ?_ | refine A.len rfl rfl rfl (by first | rw [List.length_map] | rfl) ?_ | refine A.lens rfl rfl rfl rfl ?_
      | refine A.pick_true rfl rfl rfl ?_ | refine A.pick_false rfl rfl rfl ?_ | refine A.pick_true rfl (by assumption) rfl ?_ | refine A.pick_false rfl (by assumption) rfl ?_
      | refine A.box rfl rfl rfl ?_ | refine A.alloc rfl rfl rfl ?_ | refine A.store rfl rfl rfl rfl rfl ?_ | refine A.build rfl rfl rfl rfl ?_ | refine A.buildSlice rfl rfl rfl rfl rfl rfl rfl ?_
      | refine A.eqi rfl rfl ?_ | refine A.nei rfl rfl ?_ | refine A.lss rfl rfl ?_ | refine A.leq rfl rfl ?_ | refine A.gtr rfl rfl ?_ | refine A.geq rfl rfl ?_ | refine A.eqb rfl rfl rfl rfl ?_ | refine A.neb rfl rfl rfl rfl ?_ | refine A.eqs rfl rfl ?_ | refine A.nes rfl rfl ?_ | refine A.lts rfl rfl ?_ | refine A.gts rfl rfl ?_
      | refine A.not rfl ?_ | refine A.extract rfl rfl ?_ | refine A.add64 rfl rfl rfl (by omega) ?_ | refine A.sub64 rfl rfl rfl (by omega) ?_
    exact ⟨rfl, by rw [this]⟩
end Go.Proofs.Ytajddgpkflbnaaa
