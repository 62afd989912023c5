/-
  The library's stable sort of faults: merging; one element on the right.
-/
import Derived.Test.YtajddgpkflbnaaaMSortY
namespace Go.Proofs.Ytajddgpkflbnaaa
open Go Go.Av
set_option maxRecDepth 100000
set_option maxHeartbeats 8000000
set_option linter.unusedVariables false
set_option linter.unusedSimpArgs false
attribute [local irreducible] HCode AOps PFn AFn Av.Step TStep

theorem smTwo (N : Nat) (hN' : N ≤ 1048576) (xs : List Flt) (a m b : Nat) (hxl : xs.length = N) (ham : a < m) (hmb : m < b) (hbN : b ≤ N) (S1 : SrtIx fltCmp a m xs) (S2 : SrtIx fltCmp m b xs) (d0 : (((m - a : Nat) : Int) == 1) = false) (c2 : b = m + 1) :
    AFn Try.prog 99 [.vec 0 2 N 0 N, .int .i64 a, .int .i64 m, .int .i64 b, fcl] ⟨[], [.vec (xs.map Flt.enc)]⟩
      (fun e σ => e = .ret (.tup []) ∧ σ = ⟨[], [.vec ((segSort fltCmp a b xs).map Flt.enc)]⟩) := by
  have hml : (xs.map Flt.enc).length = N := by rw [List.length_map, hxl]
  refine AFn.enter [] Try.func99 rfl rfl rfl rfl rfl (by decide) ?_
  have d01 : (((b - m : Nat) : Int) == 1) = true := by simp; omega
  repeat' first
    | refine A.sub64 (r := ((m - a : Nat) : Int)) rfl rfl (by omega) (by omega) ?_ | refine A.sub64 (r := ((b - m : Nat) : Int)) rfl rfl (by omega) (by omega) ?_
    | refine HCode.seq ?_ | refine HCode.region rfl ?_ | refine HCode.region_draw Lay.mix rfl ?_ | refine HCode.block ?_ | refine HCode.scope ?_ | refine HCode.skip ?_ | refine HCode.label ?_ | refine HCode.exit ?_ | refine HCode.ret ?_
    | refine HCode.cond_true rfl ?_ | refine HCode.cond_false rfl ?_ | refine HCode.cond_yes rfl (by assumption) ?_ | refine HCode.cond_no rfl (by assumption) ?_ | (refine HCode.cond rfl ?_ ?_ <;> intro hc)
    | refine A.nil_seq ?_ | refine A.nil (fun _ => rfl) ?_ | refine A.dead rfl ?_ | refine A.yes rfl rfl ?_ | refine A.no rfl rfl ?_ | refine A.yes rfl (by assumption) ?_ | refine A.no rfl (by assumption) ?_ | (refine A.guard rfl ?_ ?_ <;> intro hc)
    | refine A.move rfl ?_ | refine A.assign rfl ?_ | refine A.load_b rfl rfl rfl rfl ?_ | refine A.load_r rfl rfl rfl ?_ | refine A.field_b rfl rfl rfl rfl rfl rfl ?_ | refine A.field_r rfl rfl rfl rfl rfl rfl ?_ | refine A.field rfl rfl rfl rfl rfl ?_
    | refine A.index_r rfl rfl rfl rfl rfl rfl (by assumption) rfl ?_ | refine A.len rfl rfl rfl (by first | rw [List.length_map] | rfl) ?_ | refine A.lens rfl rfl rfl rfl ?_
    | refine A.pick_true rfl rfl rfl ?_ | refine A.pick_false rfl rfl rfl ?_ | refine A.pick_true rfl (by assumption) rfl ?_ | refine A.pick_false rfl (by assumption) rfl ?_
    | refine A.box rfl rfl rfl ?_ | refine A.alloc rfl rfl rfl ?_ | refine A.store rfl rfl rfl rfl rfl ?_ | refine A.build rfl rfl rfl rfl ?_ | refine A.buildSlice rfl rfl rfl rfl rfl rfl rfl ?_
    | refine A.eqi rfl rfl ?_ | refine A.nei rfl rfl ?_ | refine A.lss rfl rfl ?_ | refine A.leq rfl rfl ?_ | refine A.gtr rfl rfl ?_ | refine A.geq rfl rfl ?_ | refine A.eqb rfl rfl rfl rfl ?_ | refine A.neb rfl rfl rfl rfl ?_ | refine A.eqs rfl rfl ?_ | refine A.nes rfl rfl ?_ | refine A.lts rfl rfl ?_ | refine A.gts rfl rfl ?_
    | refine A.not rfl ?_ | refine A.extract rfl rfl ?_ | refine A.add64 rfl rfl rfl (by omega) ?_ | refine A.sub64 rfl rfl rfl (by omega) ?_
  change HCode _ _ _ _ _ _ _
  refine HCode.loop (fun k s σ => ∃ i j : Nat, k = j - i ∧ a ≤ i ∧ i ≤ j ∧ j ≤ m ∧ (a < i → ∀ x y, xs[m]? = some x → xs[i - 1]? = some y → ¬ fltCmp x y < 0) ∧ (j < m → ∀ x y, xs[m]? = some x → xs[j]? = some y → fltCmp x y < 0) ∧ σ = ⟨[], [.vec (xs.map Flt.enc)]⟩ ∧
    s = [(14, .int .i64 i), (15, .int .i64 j), (0, .vec 0 2 N 0 N), (2, .int .i64 m), (4, fcl)])
    (s0 := [(14, .int .i64 a), (15, .int .i64 m), (0, .vec 0 2 N 0 N), (2, .int .i64 m), (4, fcl)])
    ⟨rfl, rfl, rfl, rfl, rfl, trivial⟩ ⟨a, m, rfl, Nat.le_refl _, by omega, Nat.le_refl _, fun h => by omega, fun h => by omega, rfl, rfl⟩ ?_
  rintro k s σ ⟨i, j, rfl, hai, hij, hjm, q1, q2, rfl, rfl⟩
  by_cases h1 : i < j
  · have d1 : decide ((i : Int) < (j : Int)) = true := by simp [h1]
    have hh : i ≤ (i + j) / 2 ∧ (i + j) / 2 < j := by omega
    generalize hhe : (i + j) / 2 = h at hh
    have hhx : h < xs.length := by omega
    have hmx : m < xs.length := by omega
    have x1 : (xs.map Flt.enc)[h]? = some (xs[h].enc) := by rw [List.getElem?_map, List.getElem?_eq_getElem hhx]; rfl
    have x2 : (xs.map Flt.enc)[m]? = some (xs[m].enc) := by rw [List.getElem?_map, List.getElem?_eq_getElem hmx]; rfl
    have hb1 : h < N - 0 := by omega
    have hb2 : m < N - 0 := by omega
    have hcc := sortCmp xs[m] xs[h]
    repeat' first
      | refine A.add64 (r := ((i + j : Nat) : Int)) rfl rfl (by omega) (by omega) ?_ | refine A.conv rfl rfl rfl rfl (IntWalk.u64_in _ (by omega)) ?_ | refine A.conv rfl rfl rfl rfl (IntWalk.i64_in _ (by omega)) ?_ | refine A.shr1 (r := ((h : Nat) : Int)) rfl (by rw [← hhe]; exact half_of i j) ?_
      | refine HCode.seq ?_ | refine HCode.region rfl ?_ | refine HCode.region_draw Lay.mix rfl ?_ | refine HCode.block ?_ | refine HCode.scope ?_ | refine HCode.skip ?_ | refine HCode.label ?_ | refine HCode.exit ?_ | refine HCode.ret ?_
      | refine HCode.cond_true rfl ?_ | refine HCode.cond_false rfl ?_ | refine HCode.cond_yes rfl (by assumption) ?_ | refine HCode.cond_no rfl (by assumption) ?_ | (refine HCode.cond rfl ?_ ?_ <;> intro hc)
      | refine A.nil_seq ?_ | refine A.nil (fun _ => rfl) ?_ | refine A.dead rfl ?_ | refine A.yes rfl rfl ?_ | refine A.no rfl rfl ?_ | refine A.yes rfl (by assumption) ?_ | refine A.no rfl (by assumption) ?_ | (refine A.guard rfl ?_ ?_ <;> intro hc)
      | refine A.move rfl ?_ | refine A.assign rfl ?_ | refine A.load_b rfl rfl rfl rfl ?_ | refine A.load_r rfl rfl rfl ?_ | refine A.field_b rfl rfl rfl rfl rfl rfl ?_ | refine A.field_r rfl rfl rfl rfl rfl rfl ?_ | refine A.field rfl rfl rfl rfl rfl ?_
      | refine A.index_r rfl rfl rfl rfl rfl rfl (by assumption) rfl ?_ | refine A.len rfl rfl rfl (by first | rw [List.length_map] | rfl) ?_ | refine A.lens rfl rfl rfl rfl ?_
      | refine A.pick_true rfl rfl rfl ?_ | refine A.pick_false rfl rfl rfl ?_ | refine A.pick_true rfl (by assumption) rfl ?_ | refine A.pick_false rfl (by assumption) rfl ?_
      | refine A.box rfl rfl rfl ?_ | refine A.alloc rfl rfl rfl ?_ | refine A.store rfl rfl rfl rfl rfl ?_ | refine A.build rfl rfl rfl rfl ?_ | refine A.buildSlice rfl rfl rfl rfl rfl rfl rfl ?_
      | refine A.eqi rfl rfl ?_ | refine A.nei rfl rfl ?_ | refine A.lss rfl rfl ?_ | refine A.leq rfl rfl ?_ | refine A.gtr rfl rfl ?_ | refine A.geq rfl rfl ?_ | refine A.eqb rfl rfl rfl rfl ?_ | refine A.neb rfl rfl rfl rfl ?_ | refine A.eqs rfl rfl ?_ | refine A.nes rfl rfl ?_ | refine A.lts rfl rfl ?_ | refine A.gts rfl rfl ?_
      | refine A.not rfl ?_ | refine A.extract rfl rfl ?_ | refine A.add64 rfl rfl rfl (by omega) ?_ | refine A.sub64 rfl rfl rfl (by omega) ?_
      | refine A.vindex rfl rfl rfl rfl rfl rfl rfl (by assumption) (Nat.zero_add _) ?_ | refine A.vfield rfl rfl rfl rfl rfl rfl ?_ | refine A.vload rfl rfl rfl (by assumption) (by assumption) rfl ?_ | refine A.vlen rfl rfl rfl rfl ?_ | refine A.callv rfl rfl hcc (WeakL.refl _) ?_
    · refine ⟨j - (h + 1), by omega, [(14, .int .i64 ((h + 1 : Nat) : Int)), (15, .int .i64 j), (0, .vec 0 2 N 0 N), (2, .int .i64 m), (4, fcl)], ⟨rfl, rfl, rfl, rfl, rfl, trivial⟩, rfl, by simp [belowB, belowT, Tok.low, Flt.lowL],
        h + 1, j, rfl, by omega, by omega, hjm, fun _ x y f1 f2 => ?_, q2, rfl, rfl⟩
      rw [show h + 1 - 1 = h by omega, List.getElem?_eq_getElem hhx] at f2
      rw [List.getElem?_eq_getElem hmx] at f1
      cases f1; cases f2
      simpa using hc
    · refine ⟨h - i, by omega, [(14, .int .i64 i), (15, .int .i64 ((h : Nat) : Int)), (0, .vec 0 2 N 0 N), (2, .int .i64 m), (4, fcl)], ⟨rfl, rfl, rfl, rfl, rfl, trivial⟩, rfl, by simp [belowB, belowT, Tok.low, Flt.lowL],
        i, h, rfl, hai, by omega, by omega, q1, fun _ x y f1 f2 => ?_, rfl, rfl⟩
      rw [List.getElem?_eq_getElem hhx] at f2
      rw [List.getElem?_eq_getElem hmx] at f1
      cases f1; cases f2
      simpa using hc
  · have d1 : decide ((i : Int) < (j : Int)) = false := by simp; omega
    have hij2 : i = j := by omega
    subst hij2
    obtain ⟨P, U, V, S, ex, hP, hU, hV⟩ := split4 (xs := xs) (a := i) (m := m) (b := b) (by omega) (by omega) (by omega)
    obtain ⟨x, rfl⟩ : ∃ x, V = [x] := by
      match V, hV with
      | [x], _ => exact ⟨x, rfl⟩
      | [], h => simp at h; omega
      | _ :: _ :: _, h => simp at h; omega
    have hxm : xs[m]? = some x := by
      rw [ex, List.append_assoc, List.append_assoc, List.getElem?_append_right (by omega), List.getElem?_append_right (by omega), hP, hU, show m - i - (m - i) = 0 by omega]; rfl
    have hfin : P ++ [x] ++ U ++ S = segSort fltCmp a b xs := by
      rw [ex, show b = i + (m - i) + 1 by omega]
      refine ins_down fltCmp_cmp hP hU hai (by rw [← ex, show i + (m - i) = m by omega]; exact S1) (fun h y f1 => ?_) (fun h y f1 => ?_)
      · rw [← ex] at f1
        exact q2 (by omega) x y hxm f1
      · rw [← ex] at f1
        exact q1 (by omega) x y hxm f1
    have hst : mv P U x S U.length = xs := by rw [(mv_all P U x S).2, ex]
    have hmvl : ∀ t, ((mv P U x S t).map Flt.enc).length = N := by
      intro t
      have := congrArg List.length hst
      rw [mv_len] at this
      rw [List.length_map, mv_len]; omega
    have hmi : i + U.length = m := by omega
    repeat' first
      | refine HCode.seq ?_ | refine HCode.region rfl ?_ | refine HCode.region_draw Lay.mix rfl ?_ | refine HCode.block ?_ | refine HCode.scope ?_ | refine HCode.skip ?_ | refine HCode.label ?_ | refine HCode.exit ?_ | refine HCode.ret ?_
      | refine HCode.cond_true rfl ?_ | refine HCode.cond_false rfl ?_ | refine HCode.cond_yes rfl (by assumption) ?_ | refine HCode.cond_no rfl (by assumption) ?_ | (refine HCode.cond rfl ?_ ?_ <;> intro hc)
      | refine A.nil_seq ?_ | refine A.nil (fun _ => rfl) ?_ | refine A.dead rfl ?_ | refine A.yes rfl rfl ?_ | refine A.no rfl rfl ?_ | refine A.yes rfl (by assumption) ?_ | refine A.no rfl (by assumption) ?_ | (refine A.guard rfl ?_ ?_ <;> intro hc)
      | refine A.move rfl ?_ | refine A.assign rfl ?_ | refine A.load_b rfl rfl rfl rfl ?_ | refine A.load_r rfl rfl rfl ?_ | refine A.field_b rfl rfl rfl rfl rfl rfl ?_ | refine A.field_r rfl rfl rfl rfl rfl rfl ?_ | refine A.field rfl rfl rfl rfl rfl ?_
      | refine A.index_r rfl rfl rfl rfl rfl rfl (by assumption) rfl ?_ | refine A.len rfl rfl rfl (by first | rw [List.length_map] | rfl) ?_ | refine A.lens rfl rfl rfl rfl ?_
      | refine A.pick_true rfl rfl rfl ?_ | refine A.pick_false rfl rfl rfl ?_ | refine A.pick_true rfl (by assumption) rfl ?_ | refine A.pick_false rfl (by assumption) rfl ?_
      | refine A.box rfl rfl rfl ?_ | refine A.alloc rfl rfl rfl ?_ | refine A.store rfl rfl rfl rfl rfl ?_ | refine A.build rfl rfl rfl rfl ?_ | refine A.buildSlice rfl rfl rfl rfl rfl rfl rfl ?_
      | refine A.eqi rfl rfl ?_ | refine A.nei rfl rfl ?_ | refine A.lss rfl rfl ?_ | refine A.leq rfl rfl ?_ | refine A.gtr rfl rfl ?_ | refine A.geq rfl rfl ?_ | refine A.eqb rfl rfl rfl rfl ?_ | refine A.neb rfl rfl rfl rfl ?_ | refine A.eqs rfl rfl ?_ | refine A.nes rfl rfl ?_ | refine A.lts rfl rfl ?_ | refine A.gts rfl rfl ?_
      | refine A.not rfl ?_ | refine A.extract rfl rfl ?_ | refine A.add64 rfl rfl rfl (by omega) ?_ | refine A.sub64 rfl rfl rfl (by omega) ?_
    change HCode _ _ _ _ _ _ _
    refine HCode.loop (fun k s σ => ∃ t : Nat, k = t ∧ t ≤ U.length ∧ σ = ⟨[], [.vec ((mv P U x S t).map Flt.enc)]⟩ ∧ s = [(17, .int .i64 (i + t : Nat)), (14, .int .i64 i), (0, .vec 0 2 N 0 N)])
      (s0 := [(17, .int .i64 m), (14, .int .i64 i), (0, .vec 0 2 N 0 N)])
      ⟨rfl, rfl, rfl, trivial⟩ ⟨U.length, rfl, Nat.le_refl _, by rw [hst], by rw [hmi]⟩ ?_
    rintro k s σ ⟨t, rfl, ht, rfl, rfl⟩
    have hml2 := hmvl k
    cases k with
    | succ t =>
      have d2 : decide ((i : Int) < ((i + (t + 1) : Nat) : Int)) = true := by simp; omega
      have htV : t < U.length := by omega
      obtain ⟨-, -, g3, g4, -, g6⟩ := mv_ix P U x S t i hP htV
      have x1 : ((mv P U x S (t + 1)).map Flt.enc)[i + t]? = some (U[t].enc) := by rw [List.getElem?_map, g3]; rfl
      have x2 : ((mv P U x S (t + 1)).map Flt.enc)[i + (t + 1)]? = some (x.enc) := by rw [List.getElem?_map, show i + (t + 1) = i + t + 1 by omega, g4]; rfl
      have x3 : (((mv P U x S (t + 1)).map Flt.enc).set (i + (t + 1)) U[t].enc)[i + t]? = some (U[t].enc) := by rw [List.getElem?_set_ne (by omega)]; exact x1
      have hb1 : i + t < N - 0 := by have := List.getElem?_eq_some_iff.1 x1; omega
      have hb2 : i + (t + 1) < N - 0 := by have := List.getElem?_eq_some_iff.1 x2; omega
      have hl2 : (((mv P U x S (t + 1)).map Flt.enc).set (i + (t + 1)) U[t].enc).length = N := by rw [List.length_set]; exact hml2
      repeat' first
        | refine A.sub64 (r := ((i + t : Nat) : Int)) rfl rfl (by omega) (by omega) ?_
        | refine HCode.seq ?_ | refine HCode.region rfl ?_ | refine HCode.region_draw Lay.mix rfl ?_ | refine HCode.block ?_ | refine HCode.scope ?_ | refine HCode.skip ?_ | refine HCode.label ?_ | refine HCode.exit ?_ | refine HCode.ret ?_
        | refine HCode.cond_true rfl ?_ | refine HCode.cond_false rfl ?_ | refine HCode.cond_yes rfl (by assumption) ?_ | refine HCode.cond_no rfl (by assumption) ?_ | (refine HCode.cond rfl ?_ ?_ <;> intro hc)
        | refine A.nil_seq ?_ | refine A.nil (fun _ => rfl) ?_ | refine A.dead rfl ?_ | refine A.yes rfl rfl ?_ | refine A.no rfl rfl ?_ | refine A.yes rfl (by assumption) ?_ | refine A.no rfl (by assumption) ?_ | (refine A.guard rfl ?_ ?_ <;> intro hc)
        | refine A.move rfl ?_ | refine A.assign rfl ?_ | refine A.load_b rfl rfl rfl rfl ?_ | refine A.load_r rfl rfl rfl ?_ | refine A.field_b rfl rfl rfl rfl rfl rfl ?_ | refine A.field_r rfl rfl rfl rfl rfl rfl ?_ | refine A.field rfl rfl rfl rfl rfl ?_
        | refine A.index_r rfl rfl rfl rfl rfl rfl (by assumption) rfl ?_ | refine A.len rfl rfl rfl (by first | rw [List.length_map] | rfl) ?_ | refine A.lens rfl rfl rfl rfl ?_
        | refine A.pick_true rfl rfl rfl ?_ | refine A.pick_false rfl rfl rfl ?_ | refine A.pick_true rfl (by assumption) rfl ?_ | refine A.pick_false rfl (by assumption) rfl ?_
        | refine A.box rfl rfl rfl ?_ | refine A.alloc rfl rfl rfl ?_ | refine A.store rfl rfl rfl rfl rfl ?_ | refine A.build rfl rfl rfl rfl ?_ | refine A.buildSlice rfl rfl rfl rfl rfl rfl rfl ?_
        | refine A.eqi rfl rfl ?_ | refine A.nei rfl rfl ?_ | refine A.lss rfl rfl ?_ | refine A.leq rfl rfl ?_ | refine A.gtr rfl rfl ?_ | refine A.geq rfl rfl ?_ | refine A.eqb rfl rfl rfl rfl ?_ | refine A.neb rfl rfl rfl rfl ?_ | refine A.eqs rfl rfl ?_ | refine A.nes rfl rfl ?_ | refine A.lts rfl rfl ?_ | refine A.gts rfl rfl ?_
        | refine A.not rfl ?_ | refine A.extract rfl rfl ?_ | refine A.add64 rfl rfl rfl (by omega) ?_ | refine A.sub64 rfl rfl rfl (by omega) ?_
        | refine A.vindex rfl rfl rfl rfl rfl rfl rfl (by assumption) (Nat.zero_add _) ?_ | refine A.vfield rfl rfl rfl rfl rfl rfl ?_ | refine A.vload rfl rfl rfl (by assumption) (by assumption) rfl ?_ | refine A.vlen rfl rfl rfl rfl ?_ | refine A.vstore (agg := true) rfl rfl rfl rfl rfl hml2 x2 rfl rfl rfl rfl ?_ | refine A.vstore (agg := true) rfl rfl rfl rfl rfl hl2 x3 rfl rfl rfl rfl ?_
      have hsw : (((mv P U x S (t + 1)).map Flt.enc).set (i + (t + 1)) (AV.agg [U[t].path.enc, .int .i64 U[t].e])).set (i + t) (AV.agg [x.path.enc, .int .i64 x.e]) = (mv P U x S t).map Flt.enc := by
        rw [← g6, List.map_set, List.map_set]; rfl
      refine ⟨t, by omega, [(17, .int .i64 ((i + t : Nat) : Int)), (14, .int .i64 i), (0, .vec 0 2 N 0 N)], ⟨rfl, rfl, rfl, trivial⟩, rfl, ?_, t, rfl, by omega, ?_, rfl⟩
      · rw [hsw]; simp [belowB, belowT, Tok.low, Flt.lowL, -List.map_set]
      · rw [hsw]; rfl
    | zero =>
      have d2 : decide ((i : Int) < ((i + 0 : Nat) : Int)) = false := by simp
      repeat' first
        | refine HCode.seq ?_ | refine HCode.region rfl ?_ | refine HCode.region_draw Lay.mix rfl ?_ | refine HCode.block ?_ | refine HCode.scope ?_ | refine HCode.skip ?_ | refine HCode.label ?_ | refine HCode.exit ?_ | refine HCode.ret ?_
        | refine HCode.cond_true rfl ?_ | refine HCode.cond_false rfl ?_ | refine HCode.cond_yes rfl (by assumption) ?_ | refine HCode.cond_no rfl (by assumption) ?_ | (refine HCode.cond rfl ?_ ?_ <;> intro hc)
        | refine A.nil_seq ?_ | refine A.nil (fun _ => rfl) ?_ | refine A.dead rfl ?_ | refine A.yes rfl rfl ?_ | refine A.no rfl rfl ?_ | refine A.yes rfl (by assumption) ?_ | refine A.no rfl (by assumption) ?_ | (refine A.guard rfl ?_ ?_ <;> intro hc)
        | refine A.move rfl ?_ | refine A.assign rfl ?_ | refine A.load_b rfl rfl rfl rfl ?_ | refine A.load_r rfl rfl rfl ?_ | refine A.field_b rfl rfl rfl rfl rfl rfl ?_ | refine A.field_r rfl rfl rfl rfl rfl rfl ?_ | refine A.field rfl rfl rfl rfl rfl ?_
        | refine A.index_r rfl rfl rfl rfl rfl rfl (by assumption) rfl ?_ | refine A.len rfl rfl rfl (by first | rw [List.length_map] | rfl) ?_ | refine A.lens rfl rfl rfl rfl ?_
        | refine A.pick_true rfl rfl rfl ?_ | refine A.pick_false rfl rfl rfl ?_ | refine A.pick_true rfl (by assumption) rfl ?_ | refine A.pick_false rfl (by assumption) rfl ?_
        | refine A.box rfl rfl rfl ?_ | refine A.alloc rfl rfl rfl ?_ | refine A.store rfl rfl rfl rfl rfl ?_ | refine A.build rfl rfl rfl rfl ?_ | refine A.buildSlice rfl rfl rfl rfl rfl rfl rfl ?_
        | refine A.eqi rfl rfl ?_ | refine A.nei rfl rfl ?_ | refine A.lss rfl rfl ?_ | refine A.leq rfl rfl ?_ | refine A.gtr rfl rfl ?_ | refine A.geq rfl rfl ?_ | refine A.eqb rfl rfl rfl rfl ?_ | refine A.neb rfl rfl rfl rfl ?_ | refine A.eqs rfl rfl ?_ | refine A.nes rfl rfl ?_ | refine A.lts rfl rfl ?_ | refine A.gts rfl rfl ?_
        | refine A.not rfl ?_ | refine A.extract rfl rfl ?_ | refine A.add64 rfl rfl rfl (by omega) ?_ | refine A.sub64 rfl rfl rfl (by omega) ?_
      exact ⟨rfl, by rw [(mv_all P U x S).1, hfin]⟩
end Go.Proofs.Ytajddgpkflbnaaa
