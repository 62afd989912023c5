/-
  The library's stable sort of faults: all of it.
-/
import Derived.Test.YtajddgpkflbnaaaMSortY2
import Derived.Test.YtajddgpkflbnaaaMSortZ
namespace Go.Proofs.Ytajddgpkflbnaaa
open Go Go.Av
set_option maxRecDepth 100000
set_option maxHeartbeats 8000000
set_option linter.unusedVariables false
set_option linter.unusedSimpArgs false
attribute [local irreducible] HCode AOps PFn AFn Av.Step TStep


theorem symMerge (N : Nat) (hN' : N ≤ 1048576) : ∀ (fuel : Nat) (xs : List Flt) (a m b : Nat), b - a ≤ fuel → xs.length = N → a < m → m < b → b ≤ N → SrtIx fltCmp a m xs → SrtIx fltCmp m b xs →
    AFn Try.prog 99 [.vec 0 2 N 0 N, .int .i64 a, .int .i64 m, .int .i64 b, fcl] ⟨[], [.vec (xs.map Flt.enc)]⟩
      (fun e σ => e = .ret (.tup []) ∧ σ = ⟨[], [.vec ((segSort fltCmp a b xs).map Flt.enc)]⟩)
  | 0, xs, a, m, b, h1, _, h3, h4, _, _, _ => by omega
  | fuel + 1, xs, a, m, b, hf, hxl, ham, hmb, hbN, S1, S2 => by
    by_cases c1 : m = a + 1
    · exact smOne N hN' xs a m b hxl ham hmb hbN S1 S2 c1
    have d0 : (((m - a : Nat) : Int) == 1) = false := by simp; omega
    by_cases c2 : b = m + 1
    · exact smTwo N hN' xs a m b hxl ham hmb hbN S1 S2 d0 c2
    have d01 : (((b - m : Nat) : Int) == 1) = false := by simp; omega
    exact smGen N hN' xs a m b hxl ham hmb hbN S1 S2 d0 d01 (fun ys a' m' b' hlt => symMerge N hN' fuel ys a' m' b' (by omega))

/-- Sorted in blocks of w, up to n. -/
def Blocks (w n : Nat) (L : List Flt) : Prop := ∀ q, SrtIx fltCmp (q * w) (min (q * w + w) n) L

theorem stable (xs : List Flt) (n : Nat) (hn : xs.length = n) (hN : n ≤ 1048576) :
    AFn Try.prog 90 [.vec 0 2 n 0 n, .int .i64 n, fcl] ⟨[], [.vec (xs.map Flt.enc)]⟩
      (fun e σ => e = .ret (.tup []) ∧ σ = ⟨[], [.vec ((isort fltCmp xs).map Flt.enc)]⟩) := by
  refine AFn.enter [] Try.func90 rfl rfl rfl rfl rfl (by decide) ?_
  repeat' first
    | refine HCode.seq ?_ | refine HCode.region rfl ?_ | refine HCode.region_draw Lay.mix rfl ?_ | refine HCode.block ?_ | refine HCode.scope ?_ | refine HCode.skip ?_ | refine HCode.label ?_ | refine HCode.exit ?_ | refine HCode.ret ?_
    | refine HCode.cond_true rfl ?_ | refine HCode.cond_false rfl ?_ | refine HCode.cond_yes rfl (by assumption) ?_ | refine HCode.cond_no rfl (by assumption) ?_ | (refine HCode.cond rfl ?_ ?_ <;> intro hc)
    | refine A.nil_seq ?_ | refine A.nil (fun _ => rfl) ?_ | refine A.dead rfl ?_ | refine A.yes rfl rfl ?_ | refine A.no rfl rfl ?_ | refine A.yes rfl (by assumption) ?_ | refine A.no rfl (by assumption) ?_ | (refine A.guard rfl ?_ ?_ <;> intro hc)
    | refine A.move rfl ?_ | refine A.assign rfl ?_ | refine A.load_b rfl rfl rfl rfl ?_ | refine A.load_r rfl rfl rfl ?_ | refine A.field_b rfl rfl rfl rfl rfl rfl ?_ | refine A.field_r rfl rfl rfl rfl rfl rfl ?_ | refine A.field rfl rfl rfl rfl rfl ?_
    | refine A.index_r rfl rfl rfl rfl rfl rfl (by assumption) rfl ?_ | refine A.len rfl rfl rfl (by first | rw [List.length_map] | rfl) ?_ | refine A.lens rfl rfl rfl rfl ?_
    | refine A.pick_true rfl rfl rfl ?_ | refine A.pick_false rfl rfl rfl ?_ | refine A.pick_true rfl (by assumption) rfl ?_ | refine A.pick_false rfl (by assumption) rfl ?_
    | refine A.box rfl rfl rfl ?_ | refine A.alloc rfl rfl rfl ?_ | refine A.store rfl rfl rfl rfl rfl ?_ | refine A.build rfl rfl rfl rfl ?_ | refine A.buildSlice rfl rfl rfl rfl rfl rfl rfl ?_
    | refine A.eqi rfl rfl ?_ | refine A.nei rfl rfl ?_ | refine A.lss rfl rfl ?_ | refine A.leq rfl rfl ?_ | refine A.gtr rfl rfl ?_ | refine A.geq rfl rfl ?_ | refine A.eqb rfl rfl rfl rfl ?_ | refine A.neb rfl rfl rfl rfl ?_ | refine A.eqs rfl rfl ?_ | refine A.nes rfl rfl ?_ | refine A.lts rfl rfl ?_ | refine A.gts rfl rfl ?_
    | refine A.not rfl ?_ | refine A.extract rfl rfl ?_ | refine A.add64 rfl rfl rfl (by omega) ?_ | refine A.sub64 rfl rfl rfl (by omega) ?_
  change HCode _ _ _ _ _ _ _
  refine HCode.loop (fun k s σ => ∃ (t : Nat) (L : List Flt), k = n + 20 - 20 * t ∧ 20 * t ≤ n ∧ Seg fltCmp 0 n xs L ∧ (∀ q, q < t → SrtIx fltCmp (20 * q) (20 * q + 20) L) ∧ σ = ⟨[], [.vec (L.map Flt.enc)]⟩ ∧
    s = [(7, .int .i64 (20 * t : Nat)), (8, .int .i64 (20 * t + 20 : Nat)), (6, .int .i64 20), (0, .vec 0 2 n 0 n), (1, .int .i64 n), (2, fcl)])
    (s0 := [(7, .int .i64 (0 : Nat)), (8, .int .i64 (20 : Nat)), (6, .int .i64 20), (0, .vec 0 2 n 0 n), (1, .int .i64 n), (2, fcl)])
    ⟨rfl, rfl, rfl, rfl, rfl, rfl, trivial⟩ ⟨0, xs, rfl, Nat.zero_le _, Seg.refl _ _ _, fun q h => by omega, rfl, rfl⟩ ?_
  rintro k s σ ⟨t, L, rfl, htn, hL, hq, rfl, rfl⟩
  have hll : L.length = n := hL.len.trans hn
  by_cases h1 : 20 * t + 20 ≤ n
  · have d1 : decide (((20 * t + 20 : Nat) : Int) ≤ (n : Int)) = true := by simp; omega
    have hins := insertion L (20 * t) (20 * t + 20) (by omega) (by omega) (by omega)
    rw [hll] at hins
    obtain ⟨p1, p2⟩ := segSort_seg (xs := L) fltCmp_cmp (show 20 * t ≤ 20 * t + 20 by omega) (by omega)
    repeat' first
      | refine A.add64 (r := ((20 * t + 20 + 20 : Nat) : Int)) rfl rfl (by omega) (by omega) ?_
      | refine HCode.seq ?_ | refine HCode.region rfl ?_ | refine HCode.region_draw Lay.mix rfl ?_ | refine HCode.block ?_ | refine HCode.scope ?_ | refine HCode.skip ?_ | refine HCode.label ?_ | refine HCode.exit ?_ | refine HCode.ret ?_
      | refine HCode.cond_true rfl ?_ | refine HCode.cond_false rfl ?_ | refine HCode.cond_yes rfl (by assumption) ?_ | refine HCode.cond_no rfl (by assumption) ?_ | (refine HCode.cond rfl ?_ ?_ <;> intro hc)
      | refine A.nil_seq ?_ | refine A.nil (fun _ => rfl) ?_ | refine A.dead rfl ?_ | refine A.yes rfl rfl ?_ | refine A.no rfl rfl ?_ | refine A.yes rfl (by assumption) ?_ | refine A.no rfl (by assumption) ?_ | (refine A.guard rfl ?_ ?_ <;> intro hc)
      | refine A.move rfl ?_ | refine A.assign rfl ?_ | refine A.load_b rfl rfl rfl rfl ?_ | refine A.load_r rfl rfl rfl ?_ | refine A.field_b rfl rfl rfl rfl rfl rfl ?_ | refine A.field_r rfl rfl rfl rfl rfl rfl ?_ | refine A.field rfl rfl rfl rfl rfl ?_
      | refine A.index_r rfl rfl rfl rfl rfl rfl (by assumption) rfl ?_ | refine A.len rfl rfl rfl (by first | rw [List.length_map] | rfl) ?_ | refine A.lens rfl rfl rfl rfl ?_
      | refine A.pick_true rfl rfl rfl ?_ | refine A.pick_false rfl rfl rfl ?_ | refine A.pick_true rfl (by assumption) rfl ?_ | refine A.pick_false rfl (by assumption) rfl ?_
      | refine A.box rfl rfl rfl ?_ | refine A.alloc rfl rfl rfl ?_ | refine A.store rfl rfl rfl rfl rfl ?_ | refine A.build rfl rfl rfl rfl ?_ | refine A.buildSlice rfl rfl rfl rfl rfl rfl rfl ?_
      | refine A.eqi rfl rfl ?_ | refine A.nei rfl rfl ?_ | refine A.lss rfl rfl ?_ | refine A.leq rfl rfl ?_ | refine A.gtr rfl rfl ?_ | refine A.geq rfl rfl ?_ | refine A.eqb rfl rfl rfl rfl ?_ | refine A.neb rfl rfl rfl rfl ?_ | refine A.eqs rfl rfl ?_ | refine A.nes rfl rfl ?_ | refine A.lts rfl rfl ?_ | refine A.gts rfl rfl ?_
      | refine A.not rfl ?_ | refine A.extract rfl rfl ?_ | refine A.add64 rfl rfl rfl (by omega) ?_ | refine A.sub64 rfl rfl rfl (by omega) ?_
      | refine A.callV 0 rfl hins rfl rfl (Flt.closedL _) (Flt.closedL _) rfl (WeakL.refl _) rfl rfl ?_
    refine ⟨n + 20 - 20 * (t + 1), by omega, [(7, .int .i64 (20 * t + 20 : Nat)), (8, .int .i64 (20 * t + 20 + 20 : Nat)), (6, .int .i64 20), (0, .vec 0 2 n 0 n), (1, .int .i64 n), (2, fcl)],
      ⟨rfl, rfl, rfl, rfl, rfl, rfl, trivial⟩, rfl, by simp [belowB, belowT, Tok.low, Flt.lowL], t + 1, _, rfl, by omega, hL.trans (p1.wide (by omega) h1), ?_, rfl, rfl⟩
    intro q hqt
    by_cases e : q = t
    · subst e; exact p2
    · exact (hq q (by omega)).out p1 (.inl (by omega))
  · have d1 : decide (((20 * t + 20 : Nat) : Int) ≤ (n : Int)) = false := by simp; omega
    have hins := insertion L (20 * t) n (by omega) (by omega) (by omega)
    rw [hll] at hins
    obtain ⟨p1, p2⟩ := segSort_seg (xs := L) fltCmp_cmp htn (by omega)
    have hL1 : Seg fltCmp 0 n xs (segSort fltCmp (20 * t) n L) := hL.trans (p1.wide (by omega) (Nat.le_refl _))
    have hB1 : Blocks 20 n (segSort fltCmp (20 * t) n L) := by
      intro q
      rw [Nat.mul_comm q 20]
      rcases Nat.lt_trichotomy q t with e | e | e
      · exact ((hq q e).part (Nat.le_refl _) (by omega)).out p1 (.inl (by omega))
      · subst e; exact p2.part (Nat.le_refl _) (by omega)
      · exact srt_one (by omega)
    repeat' first
      | refine HCode.seq ?_ | refine HCode.region rfl ?_ | refine HCode.region_draw Lay.mix rfl ?_ | refine HCode.block ?_ | refine HCode.scope ?_ | refine HCode.skip ?_ | refine HCode.label ?_ | refine HCode.exit ?_ | refine HCode.ret ?_
      | refine HCode.cond_true rfl ?_ | refine HCode.cond_false rfl ?_ | refine HCode.cond_yes rfl (by assumption) ?_ | refine HCode.cond_no rfl (by assumption) ?_ | (refine HCode.cond rfl ?_ ?_ <;> intro hc)
      | refine A.nil_seq ?_ | refine A.nil (fun _ => rfl) ?_ | refine A.dead rfl ?_ | refine A.yes rfl rfl ?_ | refine A.no rfl rfl ?_ | refine A.yes rfl (by assumption) ?_ | refine A.no rfl (by assumption) ?_ | (refine A.guard rfl ?_ ?_ <;> intro hc)
      | refine A.move rfl ?_ | refine A.assign rfl ?_ | refine A.load_b rfl rfl rfl rfl ?_ | refine A.load_r rfl rfl rfl ?_ | refine A.field_b rfl rfl rfl rfl rfl rfl ?_ | refine A.field_r rfl rfl rfl rfl rfl rfl ?_ | refine A.field rfl rfl rfl rfl rfl ?_
      | refine A.index_r rfl rfl rfl rfl rfl rfl (by assumption) rfl ?_ | refine A.len rfl rfl rfl (by first | rw [List.length_map] | rfl) ?_ | refine A.lens rfl rfl rfl rfl ?_
      | refine A.pick_true rfl rfl rfl ?_ | refine A.pick_false rfl rfl rfl ?_ | refine A.pick_true rfl (by assumption) rfl ?_ | refine A.pick_false rfl (by assumption) rfl ?_
      | refine A.box rfl rfl rfl ?_ | refine A.alloc rfl rfl rfl ?_ | refine A.store rfl rfl rfl rfl rfl ?_ | refine A.build rfl rfl rfl rfl ?_ | refine A.buildSlice rfl rfl rfl rfl rfl rfl rfl ?_
      | refine A.eqi rfl rfl ?_ | refine A.nei rfl rfl ?_ | refine A.lss rfl rfl ?_ | refine A.leq rfl rfl ?_ | refine A.gtr rfl rfl ?_ | refine A.geq rfl rfl ?_ | refine A.eqb rfl rfl rfl rfl ?_ | refine A.neb rfl rfl rfl rfl ?_ | refine A.eqs rfl rfl ?_ | refine A.nes rfl rfl ?_ | refine A.lts rfl rfl ?_ | refine A.gts rfl rfl ?_
      | refine A.not rfl ?_ | refine A.extract rfl rfl ?_ | refine A.add64 rfl rfl rfl (by omega) ?_ | refine A.sub64 rfl rfl rfl (by omega) ?_
      | refine A.callV 0 rfl hins rfl rfl (Flt.closedL _) (Flt.closedL _) rfl (WeakL.refl _) rfl rfl ?_
    change HCode _ _ _ _ _ _ _
    generalize segSort fltCmp (20 * t) n L = L1 at *
    clear hins p1 p2 hq hL d1 hll htn h1
    refine HCode.loop (fun k s σ => ∃ (w : Nat) (L : List Flt), k = n - w ∧ 0 < w ∧ Seg fltCmp 0 n xs L ∧ Blocks w n L ∧ σ = ⟨[], [.vec (L.map Flt.enc)]⟩ ∧ s = [(6, .int .i64 (w : Nat)), (0, .vec 0 2 n 0 n), (1, .int .i64 n), (2, fcl)])
      (s0 := [(6, .int .i64 (20 : Nat)), (0, .vec 0 2 n 0 n), (1, .int .i64 n), (2, fcl)])
      ⟨rfl, rfl, rfl, rfl, trivial⟩ ⟨20, L1, rfl, by omega, hL1, hB1, rfl, rfl⟩ ?_
    clear hL1 hB1
    rintro k s σ ⟨w, L, rfl, hw, hL, hB, rfl, rfl⟩
    have hll : L.length = n := hL.len.trans hn
    by_cases h2 : w < n
    · have d2 : decide ((w : Int) < (n : Int)) = true := by simp [h2]
      repeat' first
        | refine A.mul64 (r := ((2 * w : Nat) : Int)) rfl rfl (by omega) (by omega) ?_
        | refine HCode.seq ?_ | refine HCode.region rfl ?_ | refine HCode.region_draw Lay.mix rfl ?_ | refine HCode.block ?_ | refine HCode.scope ?_ | refine HCode.skip ?_ | refine HCode.label ?_ | refine HCode.exit ?_ | refine HCode.ret ?_
        | refine HCode.cond_true rfl ?_ | refine HCode.cond_false rfl ?_ | refine HCode.cond_yes rfl (by assumption) ?_ | refine HCode.cond_no rfl (by assumption) ?_ | (refine HCode.cond rfl ?_ ?_ <;> intro hc)
        | refine A.nil_seq ?_ | refine A.nil (fun _ => rfl) ?_ | refine A.dead rfl ?_ | refine A.yes rfl rfl ?_ | refine A.no rfl rfl ?_ | refine A.yes rfl (by assumption) ?_ | refine A.no rfl (by assumption) ?_ | (refine A.guard rfl ?_ ?_ <;> intro hc)
        | refine A.move rfl ?_ | refine A.assign rfl ?_ | refine A.load_b rfl rfl rfl rfl ?_ | refine A.load_r rfl rfl rfl ?_ | refine A.field_b rfl rfl rfl rfl rfl rfl ?_ | refine A.field_r rfl rfl rfl rfl rfl rfl ?_ | refine A.field rfl rfl rfl rfl rfl ?_
        | refine A.index_r rfl rfl rfl rfl rfl rfl (by assumption) rfl ?_ | refine A.len rfl rfl rfl (by first | rw [List.length_map] | rfl) ?_ | refine A.lens rfl rfl rfl rfl ?_
        | refine A.pick_true rfl rfl rfl ?_ | refine A.pick_false rfl rfl rfl ?_ | refine A.pick_true rfl (by assumption) rfl ?_ | refine A.pick_false rfl (by assumption) rfl ?_
        | refine A.box rfl rfl rfl ?_ | refine A.alloc rfl rfl rfl ?_ | refine A.store rfl rfl rfl rfl rfl ?_ | refine A.build rfl rfl rfl rfl ?_ | refine A.buildSlice rfl rfl rfl rfl rfl rfl rfl ?_
        | refine A.eqi rfl rfl ?_ | refine A.nei rfl rfl ?_ | refine A.lss rfl rfl ?_ | refine A.leq rfl rfl ?_ | refine A.gtr rfl rfl ?_ | refine A.geq rfl rfl ?_ | refine A.eqb rfl rfl rfl rfl ?_ | refine A.neb rfl rfl rfl rfl ?_ | refine A.eqs rfl rfl ?_ | refine A.nes rfl rfl ?_ | refine A.lts rfl rfl ?_ | refine A.gts rfl rfl ?_
        | refine A.not rfl ?_ | refine A.extract rfl rfl ?_ | refine A.add64 rfl rfl rfl (by omega) ?_ | refine A.sub64 rfl rfl rfl (by omega) ?_
      change HCode _ _ _ _ _ _ _
      refine HCode.loop (fun k s σ => ∃ (t a : Nat) (L : List Flt), k = n - a ∧ a = t * (2 * w) ∧ a ≤ n ∧ Seg fltCmp 0 n xs L ∧ (∀ q, q < t → SrtIx fltCmp (q * (2 * w)) (q * (2 * w) + 2 * w) L) ∧ (∀ q, 2 * t ≤ q → SrtIx fltCmp (q * w) (min (q * w + w) n) L) ∧ σ = ⟨[], [.vec (L.map Flt.enc)]⟩ ∧
        s = [(7, .int .i64 (a : Nat)), (8, .int .i64 (a + 2 * w : Nat)), (6, .int .i64 (w : Nat)), (0, .vec 0 2 n 0 n), (1, .int .i64 n), (2, fcl)])
        (s0 := [(7, .int .i64 (0 : Nat)), (8, .int .i64 (2 * w : Nat)), (6, .int .i64 (w : Nat)), (0, .vec 0 2 n 0 n), (1, .int .i64 n), (2, fcl)])
        ⟨rfl, rfl, rfl, rfl, rfl, rfl, trivial⟩ ⟨0, 0, L, rfl, by omega, Nat.zero_le _, hL, fun q h => by omega, fun q _ => hB q, rfl, by rw [Nat.zero_add]⟩ ?_
      clear hL hB hll
      rintro k s σ ⟨t, a, L, rfl, ha, han, hL, hq1, hq2, rfl, rfl⟩
      have hll : L.length = n := hL.len.trans hn
      have m1 : 2 * t * w = a := by rw [ha, Nat.mul_comm 2 t, Nat.mul_assoc]
      have m2 : (2 * t + 1) * w = a + w := by rw [Nat.succ_mul, m1]
      have s1 := hq2 (2 * t) (Nat.le_refl _)
      have s2 := hq2 (2 * t + 1) (by omega)
      rw [m1] at s1
      rw [m2] at s2
      by_cases h3 : a + 2 * w ≤ n
      · have d3 : decide (((a + 2 * w : Nat) : Int) ≤ (n : Int)) = true := by simp; omega
        have hsm := symMerge n hN (a + 2 * w - a) L a (a + w) (a + 2 * w) (Nat.le_refl _) hll (by omega) (by omega) h3 (s1.part (Nat.le_refl _) (by omega)) (s2.part (Nat.le_refl _) (by omega))
        obtain ⟨p1, p2⟩ := segSort_seg (xs := L) fltCmp_cmp (show a ≤ a + 2 * w by omega) (by omega)
        repeat' first
          | refine A.add64 (r := ((a + w : Nat) : Int)) rfl rfl (by omega) (by omega) ?_ | refine A.mul64 (r := ((2 * w : Nat) : Int)) rfl rfl (by omega) (by omega) ?_ | refine A.add64 (r := ((a + 2 * w + 2 * w : Nat) : Int)) rfl rfl (by omega) (by omega) ?_
          | refine HCode.seq ?_ | refine HCode.region rfl ?_ | refine HCode.region_draw Lay.mix rfl ?_ | refine HCode.block ?_ | refine HCode.scope ?_ | refine HCode.skip ?_ | refine HCode.label ?_ | refine HCode.exit ?_ | refine HCode.ret ?_
          | refine HCode.cond_true rfl ?_ | refine HCode.cond_false rfl ?_ | refine HCode.cond_yes rfl (by assumption) ?_ | refine HCode.cond_no rfl (by assumption) ?_ | (refine HCode.cond rfl ?_ ?_ <;> intro hc)
          | refine A.nil_seq ?_ | refine A.nil (fun _ => rfl) ?_ | refine A.dead rfl ?_ | refine A.yes rfl rfl ?_ | refine A.no rfl rfl ?_ | refine A.yes rfl (by assumption) ?_ | refine A.no rfl (by assumption) ?_ | (refine A.guard rfl ?_ ?_ <;> intro hc)
          | refine A.move rfl ?_ | refine A.assign rfl ?_ | refine A.load_b rfl rfl rfl rfl ?_ | refine A.load_r rfl rfl rfl ?_ | refine A.field_b rfl rfl rfl rfl rfl rfl ?_ | refine A.field_r rfl rfl rfl rfl rfl rfl ?_ | refine A.field rfl rfl rfl rfl rfl ?_
          | refine A.index_r rfl rfl rfl rfl rfl rfl (by assumption) rfl ?_ | refine A.len rfl rfl rfl (by first | rw [List.length_map] | rfl) ?_ | refine A.lens rfl rfl rfl rfl ?_
          | refine A.pick_true rfl rfl rfl ?_ | refine A.pick_false rfl rfl rfl ?_ | refine A.pick_true rfl (by assumption) rfl ?_ | refine A.pick_false rfl (by assumption) rfl ?_
          | refine A.box rfl rfl rfl ?_ | refine A.alloc rfl rfl rfl ?_ | refine A.store rfl rfl rfl rfl rfl ?_ | refine A.build rfl rfl rfl rfl ?_ | refine A.buildSlice rfl rfl rfl rfl rfl rfl rfl ?_
          | refine A.eqi rfl rfl ?_ | refine A.nei rfl rfl ?_ | refine A.lss rfl rfl ?_ | refine A.leq rfl rfl ?_ | refine A.gtr rfl rfl ?_ | refine A.geq rfl rfl ?_ | refine A.eqb rfl rfl rfl rfl ?_ | refine A.neb rfl rfl rfl rfl ?_ | refine A.eqs rfl rfl ?_ | refine A.nes rfl rfl ?_ | refine A.lts rfl rfl ?_ | refine A.gts rfl rfl ?_
          | refine A.not rfl ?_ | refine A.extract rfl rfl ?_ | refine A.add64 rfl rfl rfl (by omega) ?_ | refine A.sub64 rfl rfl rfl (by omega) ?_
          | refine A.callV 0 rfl hsm rfl rfl (Flt.closedL _) (Flt.closedL _) rfl (WeakL.refl _) rfl rfl ?_
        refine ⟨n - (a + 2 * w), by omega, [(7, .int .i64 (a + 2 * w : Nat)), (8, .int .i64 (a + 2 * w + 2 * w : Nat)), (6, .int .i64 (w : Nat)), (0, .vec 0 2 n 0 n), (1, .int .i64 n), (2, fcl)],
          ⟨rfl, rfl, rfl, rfl, rfl, rfl, trivial⟩, rfl, by simp [belowB, belowT, Tok.low, Flt.lowL], t + 1, a + 2 * w, _, rfl, by rw [Nat.add_mul t 1 (2 * w), Nat.one_mul, ← ha], h3, hL.trans (p1.wide (by omega) h3), ?_, ?_, rfl, rfl⟩
        · intro q hqt
          by_cases e : q = t
          · subst e; rw [← ha]; exact p2
          · have hlt : q < t := by omega
            have : q * (2 * w) + 2 * w ≤ a := by
              have := Nat.mul_le_mul_right (2 * w) (show q + 1 ≤ t by omega)
              rw [Nat.succ_mul] at this
              omega
            exact (hq1 q hlt).out p1 (.inl this)
        · intro q hqt
          have : a + 2 * w ≤ q * w := by
            have := Nat.mul_le_mul_right w hqt
            rw [show 2 * (t + 1) = 2 * t + 1 + 1 by omega, Nat.succ_mul, m2] at this
            omega
          exact (hq2 q (by omega)).out p1 (.inr this)
      · have d3 : decide (((a + 2 * w : Nat) : Int) ≤ (n : Int)) = false := by simp; omega
        by_cases h4 : a + w < n
        · have d4 : decide (((a + w : Nat) : Int) < (n : Int)) = true := by simp; omega
          have hsm := symMerge n hN (n - a) L a (a + w) n (Nat.le_refl _) hll (by omega) h4 (Nat.le_refl _) (s1.part (Nat.le_refl _) (by omega)) (s2.part (Nat.le_refl _) (by omega))
          obtain ⟨p1, p2⟩ := segSort_seg (xs := L) fltCmp_cmp han (by omega)
          repeat' first
            | refine A.add64 (r := ((a + w : Nat) : Int)) rfl rfl (by omega) (by omega) ?_ | refine A.mul64 (r := ((w * 2 : Nat) : Int)) rfl rfl (by omega) (by omega) ?_
            | refine HCode.seq ?_ | refine HCode.region rfl ?_ | refine HCode.region_draw Lay.mix rfl ?_ | refine HCode.block ?_ | refine HCode.scope ?_ | refine HCode.skip ?_ | refine HCode.label ?_ | refine HCode.exit ?_ | refine HCode.ret ?_
            | refine HCode.cond_true rfl ?_ | refine HCode.cond_false rfl ?_ | refine HCode.cond_yes rfl (by assumption) ?_ | refine HCode.cond_no rfl (by assumption) ?_ | (refine HCode.cond rfl ?_ ?_ <;> intro hc)
            | refine A.nil_seq ?_ | refine A.nil (fun _ => rfl) ?_ | refine A.dead rfl ?_ | refine A.yes rfl rfl ?_ | refine A.no rfl rfl ?_ | refine A.yes rfl (by assumption) ?_ | refine A.no rfl (by assumption) ?_ | (refine A.guard rfl ?_ ?_ <;> intro hc)
            | refine A.move rfl ?_ | refine A.assign rfl ?_ | refine A.load_b rfl rfl rfl rfl ?_ | refine A.load_r rfl rfl rfl ?_ | refine A.field_b rfl rfl rfl rfl rfl rfl ?_ | refine A.field_r rfl rfl rfl rfl rfl rfl ?_ | refine A.field rfl rfl rfl rfl rfl ?_
            | refine A.index_r rfl rfl rfl rfl rfl rfl (by assumption) rfl ?_ | refine A.len rfl rfl rfl (by first | rw [List.length_map] | rfl) ?_ | refine A.lens rfl rfl rfl rfl ?_
            | refine A.pick_true rfl rfl rfl ?_ | refine A.pick_false rfl rfl rfl ?_ | refine A.pick_true rfl (by assumption) rfl ?_ | refine A.pick_false rfl (by assumption) rfl ?_
            | refine A.box rfl rfl rfl ?_ | refine A.alloc rfl rfl rfl ?_ | refine A.store rfl rfl rfl rfl rfl ?_ | refine A.build rfl rfl rfl rfl ?_ | refine A.buildSlice rfl rfl rfl rfl rfl rfl rfl ?_
            | refine A.eqi rfl rfl ?_ | refine A.nei rfl rfl ?_ | refine A.lss rfl rfl ?_ | refine A.leq rfl rfl ?_ | refine A.gtr rfl rfl ?_ | refine A.geq rfl rfl ?_ | refine A.eqb rfl rfl rfl rfl ?_ | refine A.neb rfl rfl rfl rfl ?_ | refine A.eqs rfl rfl ?_ | refine A.nes rfl rfl ?_ | refine A.lts rfl rfl ?_ | refine A.gts rfl rfl ?_
            | refine A.not rfl ?_ | refine A.extract rfl rfl ?_ | refine A.add64 rfl rfl rfl (by omega) ?_ | refine A.sub64 rfl rfl rfl (by omega) ?_
            | refine A.callV 0 rfl hsm rfl rfl (Flt.closedL _) (Flt.closedL _) rfl (WeakL.refl _) rfl rfl ?_
          refine ⟨n - w * 2, by omega, [(6, .int .i64 (w * 2 : Nat)), (0, .vec 0 2 n 0 n), (1, .int .i64 n), (2, fcl)], ⟨rfl, rfl, rfl, rfl, trivial⟩, rfl, by simp [belowB, belowT, Tok.low, Flt.lowL], w * 2, _, rfl, by omega, hL.trans (p1.wide (by omega) (Nat.le_refl _)), ?_, rfl, rfl⟩
          intro q
          rw [Nat.mul_comm w 2]
          rcases Nat.lt_trichotomy q t with e | e | e
          · have : q * (2 * w) + 2 * w ≤ a := by
              have := Nat.mul_le_mul_right (2 * w) (show q + 1 ≤ t by omega)
              rw [Nat.succ_mul] at this
              omega
            exact ((hq1 q e).part (Nat.le_refl _) (by omega)).out p1 (.inl (by omega))
          · subst e; rw [← ha]; exact p2.part (Nat.le_refl _) (by omega)
          · have : a + 2 * w ≤ q * (2 * w) := by
              have := Nat.mul_le_mul_right (2 * w) (show t + 1 ≤ q by omega)
              rw [Nat.succ_mul] at this
              omega
            exact srt_one (by omega)
        · have d4 : decide (((a + w : Nat) : Int) < (n : Int)) = false := by simp; omega
          repeat' first
            | refine A.add64 (r := ((a + w : Nat) : Int)) rfl rfl (by omega) (by omega) ?_ | refine A.mul64 (r := ((w * 2 : Nat) : Int)) rfl rfl (by omega) (by omega) ?_
            | refine HCode.seq ?_ | refine HCode.region rfl ?_ | refine HCode.region_draw Lay.mix rfl ?_ | refine HCode.block ?_ | refine HCode.scope ?_ | refine HCode.skip ?_ | refine HCode.label ?_ | refine HCode.exit ?_ | refine HCode.ret ?_
            | refine HCode.cond_true rfl ?_ | refine HCode.cond_false rfl ?_ | refine HCode.cond_yes rfl (by assumption) ?_ | refine HCode.cond_no rfl (by assumption) ?_ | (refine HCode.cond rfl ?_ ?_ <;> intro hc)
            | refine A.nil_seq ?_ | refine A.nil (fun _ => rfl) ?_ | refine A.dead rfl ?_ | refine A.yes rfl rfl ?_ | refine A.no rfl rfl ?_ | refine A.yes rfl (by assumption) ?_ | refine A.no rfl (by assumption) ?_ | (refine A.guard rfl ?_ ?_ <;> intro hc)
            | refine A.move rfl ?_ | refine A.assign rfl ?_ | refine A.load_b rfl rfl rfl rfl ?_ | refine A.load_r rfl rfl rfl ?_ | refine A.field_b rfl rfl rfl rfl rfl rfl ?_ | refine A.field_r rfl rfl rfl rfl rfl rfl ?_ | refine A.field rfl rfl rfl rfl rfl ?_
            | refine A.index_r rfl rfl rfl rfl rfl rfl (by assumption) rfl ?_ | refine A.len rfl rfl rfl (by first | rw [List.length_map] | rfl) ?_ | refine A.lens rfl rfl rfl rfl ?_
            | refine A.pick_true rfl rfl rfl ?_ | refine A.pick_false rfl rfl rfl ?_ | refine A.pick_true rfl (by assumption) rfl ?_ | refine A.pick_false rfl (by assumption) rfl ?_
            | refine A.box rfl rfl rfl ?_ | refine A.alloc rfl rfl rfl ?_ | refine A.store rfl rfl rfl rfl rfl ?_ | refine A.build rfl rfl rfl rfl ?_ | refine A.buildSlice rfl rfl rfl rfl rfl rfl rfl ?_
            | refine A.eqi rfl rfl ?_ | refine A.nei rfl rfl ?_ | refine A.lss rfl rfl ?_ | refine A.leq rfl rfl ?_ | refine A.gtr rfl rfl ?_ | refine A.geq rfl rfl ?_ | refine A.eqb rfl rfl rfl rfl ?_ | refine A.neb rfl rfl rfl rfl ?_ | refine A.eqs rfl rfl ?_ | refine A.nes rfl rfl ?_ | refine A.lts rfl rfl ?_ | refine A.gts rfl rfl ?_
            | refine A.not rfl ?_ | refine A.extract rfl rfl ?_ | refine A.add64 rfl rfl rfl (by omega) ?_ | refine A.sub64 rfl rfl rfl (by omega) ?_
          refine ⟨n - w * 2, by omega, [(6, .int .i64 (w * 2 : Nat)), (0, .vec 0 2 n 0 n), (1, .int .i64 n), (2, fcl)], ⟨rfl, rfl, rfl, rfl, trivial⟩, rfl, by simp [belowB, belowT, Tok.low, Flt.lowL], w * 2, L, rfl, by omega, hL, ?_, rfl, rfl⟩
          intro q
          rw [Nat.mul_comm w 2]
          rcases Nat.lt_trichotomy q t with e | e | e
          · have : q * (2 * w) + 2 * w ≤ a := by
              have := Nat.mul_le_mul_right (2 * w) (show q + 1 ≤ t by omega)
              rw [Nat.succ_mul] at this
              omega
            exact (hq1 q e).part (Nat.le_refl _) (by omega)
          · subst e; rw [← ha]; exact s1.part (Nat.le_refl _) (by omega)
          · have : a + 2 * w ≤ q * (2 * w) := by
              have := Nat.mul_le_mul_right (2 * w) (show t + 1 ≤ q by omega)
              rw [Nat.succ_mul] at this
              omega
            exact srt_one (by omega)
    · have d2 : decide ((w : Int) < (n : Int)) = false := by simp; omega
      have hs0 := hB 0
      rw [Nat.zero_mul, Nat.zero_add, Nat.min_eq_right (by omega)] at hs0
      have := seg_sorted fltCmp_cmp (Nat.zero_le n) (by omega) hL hs0
      rw [segSort_all hn.symm] at this
      repeat' first
        | refine HCode.seq ?_ | refine HCode.region rfl ?_ | refine HCode.region_draw Lay.mix rfl ?_ | refine HCode.block ?_ | refine HCode.scope ?_ | refine HCode.skip ?_ | refine HCode.label ?_ | refine HCode.exit ?_ | refine HCode.ret ?_
        | refine HCode.cond_true rfl ?_ | refine HCode.cond_false rfl ?_ | refine HCode.cond_yes rfl (by assumption) ?_ | refine HCode.cond_no rfl (by assumption) ?_ | (refine HCode.cond rfl ?_ ?_ <;> intro hc)
        | refine A.nil_seq ?_ | refine A.nil (fun _ => rfl) ?_ | refine A.dead rfl ?_ | refine A.yes rfl rfl ?_ | refine A.no rfl rfl ?_ | refine A.yes rfl (by assumption) ?_ | refine A.no rfl (by assumption) ?_ | (refine A.guard rfl ?_ ?_ <;> intro hc)
        | refine A.move rfl ?_ | refine A.assign rfl ?_ | refine A.load_b rfl rfl rfl rfl ?_ | refine A.load_r rfl rfl rfl ?_ | refine A.field_b rfl rfl rfl rfl rfl rfl ?_ | refine A.field_r rfl rfl rfl rfl rfl rfl ?_ | refine A.field rfl rfl rfl rfl rfl ?_
        | refine A.index_r rfl rfl rfl rfl rfl rfl (by assumption) rfl ?_ | refine A.len rfl rfl rfl (by first | rw [List.length_map] | rfl) ?_ | refine A.lens rfl rfl rfl rfl ?_
        | refine A.pick_true rfl rfl rfl ?_ | refine A.pick_false rfl rfl rfl ?_ | refine A.pick_true rfl (by assumption) rfl ?_ | refine A.pick_false rfl (by assumption) rfl ?_
        | refine A.box rfl rfl rfl ?_ | refine A.alloc rfl rfl rfl ?_ | refine A.store rfl rfl rfl rfl rfl ?_ | refine A.build rfl rfl rfl rfl ?_ | refine A.buildSlice rfl rfl rfl rfl rfl rfl rfl ?_
        | refine A.eqi rfl rfl ?_ | refine A.nei rfl rfl ?_ | refine A.lss rfl rfl ?_ | refine A.leq rfl rfl ?_ | refine A.gtr rfl rfl ?_ | refine A.geq rfl rfl ?_ | refine A.eqb rfl rfl rfl rfl ?_ | refine A.neb rfl rfl rfl rfl ?_ | refine A.eqs rfl rfl ?_ | refine A.nes rfl rfl ?_ | refine A.lts rfl rfl ?_ | refine A.gts rfl rfl ?_
        | refine A.not rfl ?_ | refine A.extract rfl rfl ?_ | refine A.add64 rfl rfl rfl (by omega) ?_ | refine A.sub64 rfl rfl rfl (by omega) ?_
      exact ⟨rfl, by rw [this]⟩

theorem sortStable (xs : List Flt) (n : Nat) (hn : xs.length = n) (hN : n ≤ 1048576) :
    AFn Try.prog 71 [.vec 0 2 n 0 n, fcl] ⟨[], [.vec (xs.map Flt.enc)]⟩
      (fun e σ => e = .ret (.tup []) ∧ σ = ⟨[], [.vec ((isort fltCmp xs).map Flt.enc)]⟩) := by
  refine AFn.enter [] Try.func71 rfl rfl rfl rfl rfl (by decide) ?_
  have hst := stable xs n hn hN
  repeat' first
    | refine HCode.seq ?_ | refine HCode.region rfl ?_ | refine HCode.region_draw Lay.mix rfl ?_ | refine HCode.block ?_ | refine HCode.scope ?_ | refine HCode.skip ?_ | refine HCode.label ?_ | refine HCode.exit ?_ | refine HCode.ret ?_
    | refine HCode.cond_true rfl ?_ | refine HCode.cond_false rfl ?_ | refine HCode.cond_yes rfl (by assumption) ?_ | refine HCode.cond_no rfl (by assumption) ?_ | (refine HCode.cond rfl ?_ ?_ <;> intro hc)
    | refine A.nil_seq ?_ | refine A.nil (fun _ => rfl) ?_ | refine A.dead rfl ?_ | refine A.yes rfl rfl ?_ | refine A.no rfl rfl ?_ | refine A.yes rfl (by assumption) ?_ | refine A.no rfl (by assumption) ?_ | (refine A.guard rfl ?_ ?_ <;> intro hc)
    | refine A.move rfl ?_ | refine A.assign rfl ?_ | refine A.load_b rfl rfl rfl rfl ?_ | refine A.load_r rfl rfl rfl ?_ | refine A.field_b rfl rfl rfl rfl rfl rfl ?_ | refine A.field_r rfl rfl rfl rfl rfl rfl ?_ | refine A.field rfl rfl rfl rfl rfl ?_
    | refine A.index_r rfl rfl rfl rfl rfl rfl (by assumption) rfl ?_ | refine A.len rfl rfl rfl (by first | rw [List.length_map] | rfl) ?_ | refine A.lens rfl rfl rfl rfl ?_
    | refine A.pick_true rfl rfl rfl ?_ | refine A.pick_false rfl rfl rfl ?_ | refine A.pick_true rfl (by assumption) rfl ?_ | refine A.pick_false rfl (by assumption) rfl ?_
    | refine A.box rfl rfl rfl ?_ | refine A.alloc rfl rfl rfl ?_ | refine A.store rfl rfl rfl rfl rfl ?_ | refine A.build rfl rfl rfl rfl ?_ | refine A.buildSlice rfl rfl rfl rfl rfl rfl rfl ?_
    | refine A.eqi rfl rfl ?_ | refine A.nei rfl rfl ?_ | refine A.lss rfl rfl ?_ | refine A.leq rfl rfl ?_ | refine A.gtr rfl rfl ?_ | refine A.geq rfl rfl ?_ | refine A.eqb rfl rfl rfl rfl ?_ | refine A.neb rfl rfl rfl rfl ?_ | refine A.eqs rfl rfl ?_ | refine A.nes rfl rfl ?_ | refine A.lts rfl rfl ?_ | refine A.gts rfl rfl ?_
    | refine A.not rfl ?_ | refine A.extract rfl rfl ?_ | refine A.add64 rfl rfl rfl (by omega) ?_ | refine A.sub64 rfl rfl rfl (by omega) ?_
    | refine A.vlen rfl rfl rfl (show ((n - 0 : Nat) : Int) = (n : Int) by omega) ?_ | refine A.callV 0 rfl hst rfl rfl (Flt.closedL _) (Flt.closedL _) rfl (WeakL.refl _) rfl rfl ?_
  exact ⟨rfl, rfl⟩
end Go.Proofs.Ytajddgpkflbnaaa
