/-
  The library's stable sort of faults: exchanging, rotating.
-/
import Derived.Test.YtajddgpkflbnaaaAvRen3
import Derived.Test.YtajddgpkflbnaaaMSortW
namespace Go.Proofs.Ytajddgpkflbnaaa
open Go Go.Av
set_option maxRecDepth 100000
set_option maxHeartbeats 8000000
set_option linter.unusedVariables false
set_option linter.unusedSimpArgs false
attribute [local irreducible] HCode AOps PFn AFn Av.Step TStep

/-- x and y, half exchanged. -/
def xch (p x q y s : List Flt) (i : Nat) : List Flt := p ++ (y.take i ++ x.drop i) ++ q ++ (x.take i ++ y.drop i) ++ s
theorem set_mid {α : Type} (A B : List α) (u v : α) (n : Nat) (h : A.length = n) : (A ++ u :: B).set n v = A ++ v :: B := by subst h; simp [List.set_append]
theorem get_mid {α : Type} (A B : List α) (u : α) (n : Nat) (h : A.length = n) : (A ++ u :: B)[n]? = some u := by subst h; simp [List.getElem?_append]
theorem xch_step (p x q y s : List Flt) (i a b : Nat) (hi : i < x.length) (hy : x.length = y.length) (ha : p.length = a) (hb : a + x.length + q.length = b) :
    (xch p x q y s i)[a + i]? = some x[i] ∧ (xch p x q y s i)[b + i]? = some (y[i]'(by omega)) ∧ ((xch p x q y s i).set (a + i) (y[i]'(by omega)))[b + i]? = some (y[i]'(by omega)) ∧ ((xch p x q y s i).set (a + i) (y[i]'(by omega))).set (b + i) x[i] = xch p x q y s (i + 1) := by
  have hiy : i < y.length := by omega
  have ex : x.drop i = x[i] :: x.drop (i + 1) := List.drop_eq_getElem_cons hi
  have ey : y.drop i = y[i] :: y.drop (i + 1) := List.drop_eq_getElem_cons hiy
  have tx : x.take (i + 1) = x.take i ++ [x[i]] := List.take_succ_eq_append_getElem hi
  have ty : y.take (i + 1) = y.take i ++ [y[i]] := List.take_succ_eq_append_getElem hiy
  have e1 : xch p x q y s i = (p ++ y.take i) ++ x[i] :: (x.drop (i + 1) ++ q ++ (x.take i ++ y.drop i) ++ s) := by unfold xch; rw [ex]; simp only [List.append_assoc, List.cons_append, List.nil_append, List.singleton_append]
  have e2 : xch p x q y s i = (p ++ y.take i ++ x.drop i ++ q ++ x.take i) ++ y[i] :: (y.drop (i + 1) ++ s) := by unfold xch; rw [ey]; simp only [List.append_assoc, List.cons_append, List.nil_append, List.singleton_append]
  have l1 : (p ++ y.take i).length = a + i := by simp <;> omega
  have l2 : (p ++ y.take i ++ x.drop i ++ q ++ x.take i).length = b + i := by simp <;> omega
  have e3 : (xch p x q y s i).set (a + i) y[i] = (p ++ y.take (i + 1) ++ x.drop (i + 1) ++ q ++ x.take i) ++ y[i] :: (y.drop (i + 1) ++ s) := by
    rw [e1, set_mid _ _ _ _ _ l1, ty, ey]; simp only [List.append_assoc, List.cons_append, List.nil_append, List.singleton_append]
  have l3 : (p ++ y.take (i + 1) ++ x.drop (i + 1) ++ q ++ x.take i).length = b + i := by simp <;> omega
  refine ⟨?_, ?_, ?_, ?_⟩
  · rw [e1]; exact get_mid _ _ _ _ l1
  · rw [e2]; exact get_mid _ _ _ _ l2
  · rw [e3]; exact get_mid _ _ _ _ l3
  · rw [e3, set_mid _ _ _ _ _ l3]; unfold xch; rw [tx]; simp only [List.append_assoc, List.cons_append, List.nil_append, List.singleton_append]

theorem swapRange (p x q y s : List Flt) (a b n N : Nat) (hx : x.length = n) (hy : y.length = n) (ha : p.length = a) (hb : a + n + q.length = b) (hN : (p ++ x ++ q ++ y ++ s).length = N) (hN' : N ≤ 1048576) :
    AFn Try.prog 105 [.vec 0 2 N 0 N, .int .i64 a, .int .i64 b, .int .i64 n, fcl] ⟨[], [.vec ((p ++ x ++ q ++ y ++ s).map Flt.enc)]⟩
      (fun e σ => e = .ret (.tup []) ∧ σ = ⟨[], [.vec ((p ++ y ++ q ++ x ++ s).map Flt.enc)]⟩) := by
  refine AFn.enter [] Try.func105 rfl rfl rfl rfl rfl (by decide) ?_
  have hNl : a + n + q.length + n + s.length = N := by rw [← hN]; simp; omega
  have hlen : ∀ i, i ≤ n → ((xch p x q y s i).map Flt.enc).length = N := by intro i hi; simp [xch]; omega
  repeat' first
    | refine HCode.seq ?_ | refine HCode.region rfl ?_ | refine HCode.region_draw Lay.mix rfl ?_ | refine HCode.block ?_ | refine HCode.scope ?_ | refine HCode.skip ?_ | refine HCode.label ?_ | refine HCode.exit ?_ | refine HCode.ret ?_
    | refine HCode.cond_true rfl ?_ | refine HCode.cond_false rfl ?_ | refine HCode.cond_yes rfl (by assumption) ?_ | refine HCode.cond_no rfl (by assumption) ?_ | (refine HCode.cond rfl ?_ ?_ <;> intro hc)
    | refine A.nil_seq ?_ | refine A.nil (fun _ => rfl) ?_ | refine A.dead rfl ?_ | refine A.yes rfl rfl ?_ | refine A.no rfl rfl ?_ | refine A.yes rfl (by assumption) ?_ | refine A.no rfl (by assumption) ?_ | (refine A.guard rfl ?_ ?_ <;> intro hc)
    | refine A.move rfl ?_ | refine A.assign rfl ?_ | refine A.load_b rfl rfl rfl rfl ?_ | refine A.load_r rfl rfl rfl ?_ | refine A.field_b rfl rfl rfl rfl rfl rfl ?_ | refine A.field_r rfl rfl rfl rfl rfl rfl ?_ | refine A.field rfl rfl rfl rfl rfl ?_
    | refine A.index_r rfl rfl rfl rfl rfl rfl (by assumption) rfl ?_ | refine A.len rfl rfl rfl (by first | rw [List.length_map] | rfl) ?_ | refine A.lens rfl rfl rfl rfl ?_
    | refine A.pick_true rfl rfl rfl ?_ | refine A.pick_false rfl rfl rfl ?_ | refine A.pick_true rfl (by assumption) rfl ?_ | refine A.pick_false rfl (by assumption) rfl ?_
    | refine A.box rfl rfl rfl ?_ | refine A.alloc rfl rfl rfl ?_ | refine A.store rfl rfl rfl rfl rfl ?_ | refine A.build rfl rfl rfl rfl ?_ | refine A.buildSlice rfl rfl rfl rfl rfl rfl rfl ?_
    | refine A.eqi rfl rfl ?_ | refine A.nei rfl rfl ?_ | refine A.lss rfl rfl ?_ | refine A.leq rfl rfl ?_ | refine A.gtr rfl rfl ?_ | refine A.geq rfl rfl ?_ | refine A.eqb rfl rfl rfl rfl ?_ | refine A.neb rfl rfl rfl rfl ?_ | refine A.eqs rfl rfl ?_ | refine A.nes rfl rfl ?_ | refine A.lts rfl rfl ?_ | refine A.gts rfl rfl ?_
    | refine A.not rfl ?_ | refine A.extract rfl rfl ?_ | refine A.add64 rfl rfl rfl (by omega) ?_ | refine A.sub64 rfl rfl rfl (by omega) ?_
  change HCode _ _ _ _ _ _ _
  refine HCode.loop (fun m s' σ => ∃ i : Nat, m = n - i ∧ i ≤ n ∧ σ = ⟨[], [.vec ((xch p x q y s i).map Flt.enc)]⟩ ∧
    s' = [(10, .int .i64 i), (0, .vec 0 2 N 0 N), (1, .int .i64 a), (2, .int .i64 b), (3, .int .i64 n)])
    (s0 := [(10, .int .i64 (0 : Nat)), (0, .vec 0 2 N 0 N), (1, .int .i64 a), (2, .int .i64 b), (3, .int .i64 n)])
    ⟨rfl, rfl, rfl, rfl, rfl, trivial⟩ ⟨0, rfl, Nat.zero_le _, by simp [xch], rfl⟩ ?_
  rintro m s' σ ⟨i, rfl, hin, rfl, rfl⟩
  have hli := hlen i hin
  by_cases h1 : i < n
  · have d1 : decide ((i : Int) < (n : Int)) = true := by simp [h1]
    have hix : i < x.length := by omega
    have hiy : i < y.length := by omega
    obtain ⟨g1, g2, g3, g4⟩ := xch_step p x q y s i a b hix (by omega) ha (by omega)
    have x1 : ((xch p x q y s i).map Flt.enc)[a + i]? = some (x[i].enc) := by rw [List.getElem?_map, g1]; rfl
    have x2 : ((xch p x q y s i).map Flt.enc)[b + i]? = some (y[i].enc) := by rw [List.getElem?_map, g2]; rfl
    have x3 : (((xch p x q y s i).map Flt.enc).set (a + i) y[i].enc)[b + i]? = some (y[i].enc) := by rw [← List.map_set, List.getElem?_map, g3]; rfl
    have hb1 : a + i < N - 0 := by omega
    have hb2 : b + i < N - 0 := by omega
    have hl2 : (((xch p x q y s i).map Flt.enc).set (a + i) y[i].enc).length = N := by rw [List.length_set]; exact hli
    repeat' first
      | refine A.add64 (r := ((a + i : Nat) : Int)) rfl rfl (by omega) (by omega) ?_ | refine A.add64 (r := ((b + i : Nat) : Int)) rfl rfl (by omega) (by omega) ?_
      | refine HCode.seq ?_ | refine HCode.region rfl ?_ | refine HCode.region_draw Lay.mix rfl ?_ | refine HCode.block ?_ | refine HCode.scope ?_ | refine HCode.skip ?_ | refine HCode.label ?_ | refine HCode.exit ?_ | refine HCode.ret ?_
      | refine HCode.cond_true rfl ?_ | refine HCode.cond_false rfl ?_ | refine HCode.cond_yes rfl (by assumption) ?_ | refine HCode.cond_no rfl (by assumption) ?_ | (refine HCode.cond rfl ?_ ?_ <;> intro hc)
      | refine A.nil_seq ?_ | refine A.nil (fun _ => rfl) ?_ | refine A.dead rfl ?_ | refine A.yes rfl rfl ?_ | refine A.no rfl rfl ?_ | refine A.yes rfl (by assumption) ?_ | refine A.no rfl (by assumption) ?_ | (refine A.guard rfl ?_ ?_ <;> intro hc)
      | refine A.move rfl ?_ | refine A.assign rfl ?_ | refine A.load_b rfl rfl rfl rfl ?_ | refine A.load_r rfl rfl rfl ?_ | refine A.field_b rfl rfl rfl rfl rfl rfl ?_ | refine A.field_r rfl rfl rfl rfl rfl rfl ?_ | refine A.field rfl rfl rfl rfl rfl ?_
      | refine A.index_r rfl rfl rfl rfl rfl rfl (by assumption) rfl ?_ | refine A.len rfl rfl rfl (by first | rw [List.length_map] | rfl) ?_ | refine A.lens rfl rfl rfl rfl ?_
      | refine A.pick_true rfl rfl rfl ?_ | refine A.pick_false rfl rfl rfl ?_ | refine A.pick_true rfl (by assumption) rfl ?_ | refine A.pick_false rfl (by assumption) rfl ?_
      | refine A.box rfl rfl rfl ?_ | refine A.alloc rfl rfl rfl ?_ | refine A.store rfl rfl rfl rfl rfl ?_ | refine A.build rfl rfl rfl rfl ?_ | refine A.buildSlice rfl rfl rfl rfl rfl rfl rfl ?_
      | refine A.eqi rfl rfl ?_ | refine A.nei rfl rfl ?_ | refine A.lss rfl rfl ?_ | refine A.leq rfl rfl ?_ | refine A.gtr rfl rfl ?_ | refine A.geq rfl rfl ?_ | refine A.eqb rfl rfl rfl rfl ?_ | refine A.neb rfl rfl rfl rfl ?_ | refine A.eqs rfl rfl ?_ | refine A.nes rfl rfl ?_ | refine A.lts rfl rfl ?_ | refine A.gts rfl rfl ?_
      | refine A.not rfl ?_ | refine A.extract rfl rfl ?_ | refine A.add64 rfl rfl rfl (by omega) ?_ | refine A.sub64 rfl rfl rfl (by omega) ?_
      | refine A.vindex rfl rfl rfl rfl rfl rfl rfl (by assumption) (Nat.zero_add _) ?_ | refine A.vfield rfl rfl rfl rfl rfl rfl ?_ | refine A.vload rfl rfl rfl (by assumption) (by assumption) rfl ?_ | refine A.vlen rfl rfl rfl rfl ?_ | refine A.vstore (agg := true) rfl rfl rfl rfl rfl hli x1 rfl rfl rfl rfl ?_ | refine A.vstore (agg := true) rfl rfl rfl rfl rfl hl2 x3 rfl rfl rfl rfl ?_
    have hsw : (((xch p x q y s i).map Flt.enc).set (a + i) (AV.agg [y[i].path.enc, .int .i64 y[i].e])).set (b + i) (AV.agg [x[i].path.enc, .int .i64 x[i].e]) = (xch p x q y s (i + 1)).map Flt.enc := by
      rw [← g4, List.map_set, List.map_set]; rfl
    refine ⟨n - (i + 1), by omega, [(10, .int .i64 ((i + 1 : Nat) : Int)), (0, .vec 0 2 N 0 N), (1, .int .i64 a), (2, .int .i64 b), (3, .int .i64 n)],
      ⟨rfl, rfl, rfl, rfl, rfl, trivial⟩, rfl, ?_, i + 1, rfl, by omega, ?_, rfl⟩
    · rw [hsw]
      simp [belowB, belowT, Tok.low, Flt.lowL, -List.map_set]
    · rw [hsw]
      rfl
  · have d1 : decide ((i : Int) < (n : Int)) = false := by simp <;> omega
    have : i = n := by omega
    subst this
    repeat' first
      | refine HCode.seq ?_ | refine HCode.region rfl ?_ | refine HCode.region_draw Lay.mix rfl ?_ | refine HCode.block ?_ | refine HCode.scope ?_ | refine HCode.skip ?_ | refine HCode.label ?_ | refine HCode.exit ?_ | refine HCode.ret ?_
      | refine HCode.cond_true rfl ?_ | refine HCode.cond_false rfl ?_ | refine HCode.cond_yes rfl (by assumption) ?_ | refine HCode.cond_no rfl (by assumption) ?_ | (refine HCode.cond rfl ?_ ?_ <;> intro hc)
      | refine A.nil_seq ?_ | refine A.nil (fun _ => rfl) ?_ | refine A.dead rfl ?_ | refine A.yes rfl rfl ?_ | refine A.no rfl rfl ?_ | refine A.yes rfl (by assumption) ?_ | refine A.no rfl (by assumption) ?_ | (refine A.guard rfl ?_ ?_ <;> intro hc)
      | refine A.move rfl ?_ | refine A.assign rfl ?_ | refine A.load_b rfl rfl rfl rfl ?_ | refine A.load_r rfl rfl rfl ?_ | refine A.field_b rfl rfl rfl rfl rfl rfl ?_ | refine A.field_r rfl rfl rfl rfl rfl rfl ?_ | refine A.field rfl rfl rfl rfl rfl ?_
      | refine A.index_r rfl rfl rfl rfl rfl rfl (by assumption) rfl ?_ | refine A.len rfl rfl rfl (by first | rw [List.length_map] | rfl) ?_ | refine A.lens rfl rfl rfl rfl ?_
      | refine A.pick_true rfl rfl rfl ?_ | refine A.pick_false rfl rfl rfl ?_ | refine A.pick_true rfl (by assumption) rfl ?_ | refine A.pick_false rfl (by assumption) rfl ?_
      | refine A.box rfl rfl rfl ?_ | refine A.alloc rfl rfl rfl ?_ | refine A.store rfl rfl rfl rfl rfl ?_ | refine A.build rfl rfl rfl rfl ?_ | refine A.buildSlice rfl rfl rfl rfl rfl rfl rfl ?_
      | refine A.eqi rfl rfl ?_ | refine A.nei rfl rfl ?_ | refine A.lss rfl rfl ?_ | refine A.leq rfl rfl ?_ | refine A.gtr rfl rfl ?_ | refine A.geq rfl rfl ?_ | refine A.eqb rfl rfl rfl rfl ?_ | refine A.neb rfl rfl rfl rfl ?_ | refine A.eqs rfl rfl ?_ | refine A.nes rfl rfl ?_ | refine A.lts rfl rfl ?_ | refine A.gts rfl rfl ?_
      | refine A.not rfl ?_ | refine A.extract rfl rfl ?_ | refine A.add64 rfl rfl rfl (by omega) ?_ | refine A.sub64 rfl rfl rfl (by omega) ?_
    refine ⟨rfl, ?_⟩
    have : xch p x q y s i = p ++ y ++ q ++ x ++ s := by
      unfold xch
      rw [List.take_of_length_le (by omega), List.drop_eq_nil_of_le (by omega), List.take_of_length_le (by omega), List.drop_eq_nil_of_le (by omega)]; simp
    rw [this]

theorem rotate (p u v s : List Flt) (a m b N : Nat) (ha : p.length = a) (hu : a + u.length = m) (hv : m + v.length = b) (hN : (p ++ u ++ v ++ s).length = N) (hN' : N ≤ 1048576) (hu0 : 0 < u.length) (hv0 : 0 < v.length) :
    AFn Try.prog 104 [.vec 0 2 N 0 N, .int .i64 a, .int .i64 m, .int .i64 b, fcl] ⟨[], [.vec ((p ++ u ++ v ++ s).map Flt.enc)]⟩
      (fun e σ => e = .ret (.tup []) ∧ σ = ⟨[], [.vec ((p ++ v ++ u ++ s).map Flt.enc)]⟩) := by
  refine AFn.enter [] Try.func104 rfl rfl rfl rfl rfl (by decide) ?_
  have hNl : m + v.length + s.length = N := by rw [← hN]; simp; omega
  repeat' first
    | refine A.sub64 (r := ((u.length : Nat) : Int)) rfl rfl (by omega) (by omega) ?_ | refine A.sub64 (r := ((v.length : Nat) : Int)) rfl rfl (by omega) (by omega) ?_
    | refine HCode.seq ?_ | refine HCode.region rfl ?_ | refine HCode.region_draw Lay.mix rfl ?_ | refine HCode.block ?_ | refine HCode.scope ?_ | refine HCode.skip ?_ | refine HCode.label ?_ | refine HCode.exit ?_ | refine HCode.ret ?_
    | refine HCode.cond_true rfl ?_ | refine HCode.cond_false rfl ?_ | refine HCode.cond_yes rfl (by assumption) ?_ | refine HCode.cond_no rfl (by assumption) ?_ | (refine HCode.cond rfl ?_ ?_ <;> intro hc)
    | refine A.nil_seq ?_ | refine A.nil (fun _ => rfl) ?_ | refine A.dead rfl ?_ | refine A.yes rfl rfl ?_ | refine A.no rfl rfl ?_ | refine A.yes rfl (by assumption) ?_ | refine A.no rfl (by assumption) ?_ | (refine A.guard rfl ?_ ?_ <;> intro hc)
    | refine A.move rfl ?_ | refine A.assign rfl ?_ | refine A.load_b rfl rfl rfl rfl ?_ | refine A.load_r rfl rfl rfl ?_ | refine A.field_b rfl rfl rfl rfl rfl rfl ?_ | refine A.field_r rfl rfl rfl rfl rfl rfl ?_ | refine A.field rfl rfl rfl rfl rfl ?_
    | refine A.index_r rfl rfl rfl rfl rfl rfl (by assumption) rfl ?_ | refine A.len rfl rfl rfl (by first | rw [List.length_map] | rfl) ?_ | refine A.lens rfl rfl rfl rfl ?_
    | refine A.pick_true rfl rfl rfl ?_ | refine A.pick_false rfl rfl rfl ?_ | refine A.pick_true rfl (by assumption) rfl ?_ | refine A.pick_false rfl (by assumption) rfl ?_
    | refine A.box rfl rfl rfl ?_ | refine A.alloc rfl rfl rfl ?_ | refine A.store rfl rfl rfl rfl rfl ?_ | refine A.build rfl rfl rfl rfl ?_ | refine A.buildSlice rfl rfl rfl rfl rfl rfl rfl ?_
    | refine A.eqi rfl rfl ?_ | refine A.nei rfl rfl ?_ | refine A.lss rfl rfl ?_ | refine A.leq rfl rfl ?_ | refine A.gtr rfl rfl ?_ | refine A.geq rfl rfl ?_ | refine A.eqb rfl rfl rfl rfl ?_ | refine A.neb rfl rfl rfl rfl ?_ | refine A.eqs rfl rfl ?_ | refine A.nes rfl rfl ?_ | refine A.lts rfl rfl ?_ | refine A.gts rfl rfl ?_
    | refine A.not rfl ?_ | refine A.extract rfl rfl ?_ | refine A.add64 rfl rfl rfl (by omega) ?_ | refine A.sub64 rfl rfl rfl (by omega) ?_
  change HCode _ _ _ _ _ _ _
  refine HCode.loop (fun k s' σ => ∃ p1 u1 v1 s1 : List Flt, k = u1.length + v1.length ∧ 0 < u1.length ∧ 0 < v1.length ∧ p1.length + u1.length = m ∧ m + v1.length + s1.length = N ∧ p1 ++ v1 ++ u1 ++ s1 = p ++ v ++ u ++ s ∧ σ = ⟨[], [.vec ((p1 ++ u1 ++ v1 ++ s1).map Flt.enc)]⟩ ∧
    s' = [(10, .int .i64 (u1.length : Nat)), (11, .int .i64 (v1.length : Nat)), (0, .vec 0 2 N 0 N), (2, .int .i64 m), (4, fcl)])
    (s0 := [(10, .int .i64 (u.length : Nat)), (11, .int .i64 (v.length : Nat)), (0, .vec 0 2 N 0 N), (2, .int .i64 m), (4, fcl)])
    ⟨rfl, rfl, rfl, rfl, rfl, trivial⟩ ⟨p, u, v, s, rfl, hu0, hv0, by omega, by omega, rfl, rfl, rfl⟩ ?_
  rintro k s' σ ⟨p1, u1, v1, s1, rfl, h1, h2, h3, h4, he, rfl, rfl⟩
  by_cases hne : u1.length = v1.length
  · have d1 : ((u1.length : Int) != (v1.length : Int)) = false := by simp [hne]
    have hsw := swapRange p1 u1 [] v1 s1 (m - u1.length) m u1.length N rfl hne.symm (by omega) (by simp <;> omega) (by simp <;> omega) hN'
    simp only [List.append_nil] at hsw
    repeat' first
      | refine A.sub64 (r := ((m - u1.length : Nat) : Int)) rfl rfl (by omega) (by omega) ?_
      | refine HCode.seq ?_ | refine HCode.region rfl ?_ | refine HCode.region_draw Lay.mix rfl ?_ | refine HCode.block ?_ | refine HCode.scope ?_ | refine HCode.skip ?_ | refine HCode.label ?_ | refine HCode.exit ?_ | refine HCode.ret ?_
      | refine HCode.cond_true rfl ?_ | refine HCode.cond_false rfl ?_ | refine HCode.cond_yes rfl (by assumption) ?_ | refine HCode.cond_no rfl (by assumption) ?_ | (refine HCode.cond rfl ?_ ?_ <;> intro hc)
      | refine A.nil_seq ?_ | refine A.nil (fun _ => rfl) ?_ | refine A.dead rfl ?_ | refine A.yes rfl rfl ?_ | refine A.no rfl rfl ?_ | refine A.yes rfl (by assumption) ?_ | refine A.no rfl (by assumption) ?_ | (refine A.guard rfl ?_ ?_ <;> intro hc)
      | refine A.move rfl ?_ | refine A.assign rfl ?_ | refine A.load_b rfl rfl rfl rfl ?_ | refine A.load_r rfl rfl rfl ?_ | refine A.field_b rfl rfl rfl rfl rfl rfl ?_ | refine A.field_r rfl rfl rfl rfl rfl rfl ?_ | refine A.field rfl rfl rfl rfl rfl ?_
      | refine A.index_r rfl rfl rfl rfl rfl rfl (by assumption) rfl ?_ | refine A.len rfl rfl rfl (by first | rw [List.length_map] | rfl) ?_ | refine A.lens rfl rfl rfl rfl ?_
      | refine A.pick_true rfl rfl rfl ?_ | refine A.pick_false rfl rfl rfl ?_ | refine A.pick_true rfl (by assumption) rfl ?_ | refine A.pick_false rfl (by assumption) rfl ?_
      | refine A.box rfl rfl rfl ?_ | refine A.alloc rfl rfl rfl ?_ | refine A.store rfl rfl rfl rfl rfl ?_ | refine A.build rfl rfl rfl rfl ?_ | refine A.buildSlice rfl rfl rfl rfl rfl rfl rfl ?_
      | refine A.eqi rfl rfl ?_ | refine A.nei rfl rfl ?_ | refine A.lss rfl rfl ?_ | refine A.leq rfl rfl ?_ | refine A.gtr rfl rfl ?_ | refine A.geq rfl rfl ?_ | refine A.eqb rfl rfl rfl rfl ?_ | refine A.neb rfl rfl rfl rfl ?_ | refine A.eqs rfl rfl ?_ | refine A.nes rfl rfl ?_ | refine A.lts rfl rfl ?_ | refine A.gts rfl rfl ?_
      | refine A.not rfl ?_ | refine A.extract rfl rfl ?_ | refine A.add64 rfl rfl rfl (by omega) ?_ | refine A.sub64 rfl rfl rfl (by omega) ?_
      | refine A.callV 0 rfl hsw rfl rfl (Flt.closedL _) (Flt.closedL _) rfl (WeakL.refl _) rfl rfl ?_
    exact ⟨rfl, by rw [he]⟩
  · have d1 : ((u1.length : Int) != (v1.length : Int)) = true := by simp <;> omega
    by_cases hgt : v1.length < u1.length
    · have d2 : decide ((v1.length : Int) < (u1.length : Int)) = true := by simp [hgt]
      have hsplit : u1 = u1.take v1.length ++ u1.drop v1.length := (List.take_append_drop _ _).symm
      have hsw := swapRange p1 (u1.take v1.length) (u1.drop v1.length) v1 s1 (m - u1.length) m v1.length N (by simp <;> omega) rfl (by omega) (by simp <;> omega) (by simp <;> omega) hN'
      rw [show p1 ++ u1.take v1.length ++ u1.drop v1.length ++ v1 ++ s1 = p1 ++ u1 ++ v1 ++ s1 by rw [List.append_assoc p1, ← hsplit]] at hsw
      repeat' first
        | refine A.sub64 (r := ((m - u1.length : Nat) : Int)) rfl rfl (by omega) (by omega) ?_ | refine A.sub64 (r := ((u1.length - v1.length : Nat) : Int)) rfl rfl (by omega) (by omega) ?_
        | refine HCode.seq ?_ | refine HCode.region rfl ?_ | refine HCode.region_draw Lay.mix rfl ?_ | refine HCode.block ?_ | refine HCode.scope ?_ | refine HCode.skip ?_ | refine HCode.label ?_ | refine HCode.exit ?_ | refine HCode.ret ?_
        | refine HCode.cond_true rfl ?_ | refine HCode.cond_false rfl ?_ | refine HCode.cond_yes rfl (by assumption) ?_ | refine HCode.cond_no rfl (by assumption) ?_ | (refine HCode.cond rfl ?_ ?_ <;> intro hc)
        | refine A.nil_seq ?_ | refine A.nil (fun _ => rfl) ?_ | refine A.dead rfl ?_ | refine A.yes rfl rfl ?_ | refine A.no rfl rfl ?_ | refine A.yes rfl (by assumption) ?_ | refine A.no rfl (by assumption) ?_ | (refine A.guard rfl ?_ ?_ <;> intro hc)
        | refine A.move rfl ?_ | refine A.assign rfl ?_ | refine A.load_b rfl rfl rfl rfl ?_ | refine A.load_r rfl rfl rfl ?_ | refine A.field_b rfl rfl rfl rfl rfl rfl ?_ | refine A.field_r rfl rfl rfl rfl rfl rfl ?_ | refine A.field rfl rfl rfl rfl rfl ?_
        | refine A.index_r rfl rfl rfl rfl rfl rfl (by assumption) rfl ?_ | refine A.len rfl rfl rfl (by first | rw [List.length_map] | rfl) ?_ | refine A.lens rfl rfl rfl rfl ?_
        | refine A.pick_true rfl rfl rfl ?_ | refine A.pick_false rfl rfl rfl ?_ | refine A.pick_true rfl (by assumption) rfl ?_ | refine A.pick_false rfl (by assumption) rfl ?_
        | refine A.box rfl rfl rfl ?_ | refine A.alloc rfl rfl rfl ?_ | refine A.store rfl rfl rfl rfl rfl ?_ | refine A.build rfl rfl rfl rfl ?_ | refine A.buildSlice rfl rfl rfl rfl rfl rfl rfl ?_
        | refine A.eqi rfl rfl ?_ | refine A.nei rfl rfl ?_ | refine A.lss rfl rfl ?_ | refine A.leq rfl rfl ?_ | refine A.gtr rfl rfl ?_ | refine A.geq rfl rfl ?_ | refine A.eqb rfl rfl rfl rfl ?_ | refine A.neb rfl rfl rfl rfl ?_ | refine A.eqs rfl rfl ?_ | refine A.nes rfl rfl ?_ | refine A.lts rfl rfl ?_ | refine A.gts rfl rfl ?_
        | refine A.not rfl ?_ | refine A.extract rfl rfl ?_ | refine A.add64 rfl rfl rfl (by omega) ?_ | refine A.sub64 rfl rfl rfl (by omega) ?_
        | refine A.callV 0 rfl hsw rfl rfl (Flt.closedL _) (Flt.closedL _) rfl (WeakL.refl _) rfl rfl ?_
      refine ⟨u1.length, by omega, [(10, .int .i64 ((u1.length - v1.length : Nat) : Int)), (11, .int .i64 (v1.length : Nat)), (0, .vec 0 2 N 0 N), (2, .int .i64 m), (4, fcl)],
        ⟨rfl, rfl, rfl, rfl, rfl, trivial⟩, rfl, by simp [belowB, belowT, Tok.low, Flt.lowL, -List.map_append], p1 ++ v1, u1.drop v1.length, u1.take v1.length, s1, by simp <;> omega, by simp <;> omega, by simp <;> omega, by simp <;> omega, by simp <;> omega, ?_, ?_, ?_⟩
      · rw [← he]
        rw [List.append_assoc (p1 ++ v1), List.take_append_drop]
      · rfl
      · simp; omega
    · have d2 : decide ((v1.length : Int) < (u1.length : Int)) = false := by simp <;> omega
      have hsplit : v1 = v1.take (v1.length - u1.length) ++ v1.drop (v1.length - u1.length) := (List.take_append_drop _ _).symm
      have hsw := swapRange p1 u1 (v1.take (v1.length - u1.length)) (v1.drop (v1.length - u1.length)) s1 (m - u1.length) (m + v1.length - u1.length) u1.length N rfl (by simp <;> omega) (by omega) (by simp <;> omega) (by simp <;> omega) hN'
      rw [show p1 ++ u1 ++ v1.take (v1.length - u1.length) ++ v1.drop (v1.length - u1.length) ++ s1 = p1 ++ u1 ++ v1 ++ s1 by rw [List.append_assoc (p1 ++ u1), ← hsplit]] at hsw
      repeat' first
        | refine A.sub64 (r := ((m - u1.length : Nat) : Int)) rfl rfl (by omega) (by omega) ?_ | refine A.sub64 (r := ((v1.length - u1.length : Nat) : Int)) rfl rfl (by omega) (by omega) ?_ | refine A.add64 (r := ((m + v1.length : Nat) : Int)) rfl rfl (by omega) (by omega) ?_ | refine A.sub64 (r := ((m + v1.length - u1.length : Nat) : Int)) rfl rfl (by omega) (by omega) ?_
        | refine HCode.seq ?_ | refine HCode.region rfl ?_ | refine HCode.region_draw Lay.mix rfl ?_ | refine HCode.block ?_ | refine HCode.scope ?_ | refine HCode.skip ?_ | refine HCode.label ?_ | refine HCode.exit ?_ | refine HCode.ret ?_
        | refine HCode.cond_true rfl ?_ | refine HCode.cond_false rfl ?_ | refine HCode.cond_yes rfl (by assumption) ?_ | refine HCode.cond_no rfl (by assumption) ?_ | (refine HCode.cond rfl ?_ ?_ <;> intro hc)
        | refine A.nil_seq ?_ | refine A.nil (fun _ => rfl) ?_ | refine A.dead rfl ?_ | refine A.yes rfl rfl ?_ | refine A.no rfl rfl ?_ | refine A.yes rfl (by assumption) ?_ | refine A.no rfl (by assumption) ?_ | (refine A.guard rfl ?_ ?_ <;> intro hc)
        | refine A.move rfl ?_ | refine A.assign rfl ?_ | refine A.load_b rfl rfl rfl rfl ?_ | refine A.load_r rfl rfl rfl ?_ | refine A.field_b rfl rfl rfl rfl rfl rfl ?_ | refine A.field_r rfl rfl rfl rfl rfl rfl ?_ | refine A.field rfl rfl rfl rfl rfl ?_
        | refine A.index_r rfl rfl rfl rfl rfl rfl (by assumption) rfl ?_ | refine A.len rfl rfl rfl (by first | rw [List.length_map] | rfl) ?_ | refine A.lens rfl rfl rfl rfl ?_
        | refine A.pick_true rfl rfl rfl ?_ | refine A.pick_false rfl rfl rfl ?_ | refine A.pick_true rfl (by assumption) rfl ?_ | refine A.pick_false rfl (by assumption) rfl ?_
        | refine A.box rfl rfl rfl ?_ | refine A.alloc rfl rfl rfl ?_ | refine A.store rfl rfl rfl rfl rfl ?_ | refine A.build rfl rfl rfl rfl ?_ | refine A.buildSlice rfl rfl rfl rfl rfl rfl rfl ?_
        | refine A.eqi rfl rfl ?_ | refine A.nei rfl rfl ?_ | refine A.lss rfl rfl ?_ | refine A.leq rfl rfl ?_ | refine A.gtr rfl rfl ?_ | refine A.geq rfl rfl ?_ | refine A.eqb rfl rfl rfl rfl ?_ | refine A.neb rfl rfl rfl rfl ?_ | refine A.eqs rfl rfl ?_ | refine A.nes rfl rfl ?_ | refine A.lts rfl rfl ?_ | refine A.gts rfl rfl ?_
        | refine A.not rfl ?_ | refine A.extract rfl rfl ?_ | refine A.add64 rfl rfl rfl (by omega) ?_ | refine A.sub64 rfl rfl rfl (by omega) ?_
        | refine A.callV 0 rfl hsw rfl rfl (Flt.closedL _) (Flt.closedL _) rfl (WeakL.refl _) rfl rfl ?_
      refine ⟨v1.length, by omega, [(10, .int .i64 (u1.length : Nat)), (11, .int .i64 ((v1.length - u1.length : Nat) : Int)), (0, .vec 0 2 N 0 N), (2, .int .i64 m), (4, fcl)],
        ⟨rfl, rfl, rfl, rfl, rfl, trivial⟩, rfl, by simp [belowB, belowT, Tok.low, Flt.lowL, -List.map_append], p1, v1.drop (v1.length - u1.length), v1.take (v1.length - u1.length), u1 ++ s1, by simp <;> omega, by simp <;> omega, by simp <;> omega, by simp <;> omega, by simp <;> omega, ?_, ?_, ?_⟩
      · rw [← he, List.append_assoc p1, List.take_append_drop, List.append_assoc (p1 ++ v1)]
      · simp [List.append_assoc]
      · simp; omega
end Go.Proofs.Ytajddgpkflbnaaa
