/-
  The library's stable sort of faults: merging; one element on the left.
-/
import Derived.Test.YtajddgpkflbnaaaMSortX
namespace Go.Proofs.Ytajddgpkflbnaaa
open Go Go.Av
set_option maxRecDepth 100000
set_option maxHeartbeats 8000000
set_option linter.unusedVariables false
set_option linter.unusedSimpArgs false
attribute [local irreducible] HCode AOps PFn AFn Av.Step TStep

/-- One element that has passed t others. -/
def mv (P V : List Flt) (x : Flt) (S : List Flt) (t : Nat) : List Flt := P ++ V.take t ++ x :: (V.drop t ++ S)
theorem mv_ix (P V : List Flt) (x : Flt) (S : List Flt) (t a : Nat) (hP : P.length = a) (ht : t < V.length) :
    (mv P V x S t)[a + t]? = some x ∧ (mv P V x S t)[a + t + 1]? = some V[t] ∧ (mv P V x S (t + 1))[a + t]? = some V[t] ∧ (mv P V x S (t + 1))[a + t + 1]? = some x ∧
    ((mv P V x S t).set (a + t) V[t]).set (a + t + 1) x = mv P V x S (t + 1) ∧ ((mv P V x S (t + 1)).set (a + t + 1) V[t]).set (a + t) x = mv P V x S t := by
  have eV : V.drop t = V[t] :: V.drop (t + 1) := List.drop_eq_getElem_cons ht
  have tV : V.take (t + 1) = V.take t ++ [V[t]] := List.take_succ_eq_append_getElem ht
  have l1 : (P ++ V.take t).length = a + t := by simp <;> omega
  have l2 : (P ++ V.take t ++ [x]).length = a + t + 1 := by simp <;> omega
  have l3 : (P ++ V.take t ++ [V[t]]).length = a + t + 1 := by simp <;> omega
  have e1 : mv P V x S t = (P ++ V.take t) ++ x :: (V[t] :: V.drop (t + 1) ++ S) := by unfold mv; rw [eV]
  have e2 : mv P V x S t = (P ++ V.take t ++ [x]) ++ V[t] :: (V.drop (t + 1) ++ S) := by rw [e1]; simp only [List.append_assoc, List.cons_append, List.nil_append]
  have e3 : mv P V x S (t + 1) = (P ++ V.take t ++ [V[t]]) ++ x :: (V.drop (t + 1) ++ S) := by unfold mv; rw [tV]; simp only [List.append_assoc, List.cons_append, List.nil_append]
  have e4 : mv P V x S (t + 1) = (P ++ V.take t) ++ V[t] :: (x :: (V.drop (t + 1) ++ S)) := by rw [e3]; simp only [List.append_assoc, List.cons_append, List.nil_append]
  have e5 : (P ++ V.take t) ++ V[t] :: (V[t] :: V.drop (t + 1) ++ S) = (P ++ V.take t ++ [V[t]]) ++ V[t] :: (V.drop (t + 1) ++ S) := by simp only [List.append_assoc, List.cons_append, List.nil_append]
  refine ⟨?_, ?_, ?_, ?_, ?_, ?_⟩
  · rw [e1]; exact get_mid _ _ _ _ l1
  · rw [e2]; exact get_mid _ _ _ _ l2
  · rw [e4]; exact get_mid _ _ _ _ l1
  · rw [e3]; exact get_mid _ _ _ _ l3
  · rw [e1, set_mid _ _ _ _ _ l1, e5, set_mid _ _ _ _ _ l3, e3]
  · rw [e3, set_mid _ _ _ _ _ l3, ← e5, set_mid _ _ _ _ _ l1, e1]
theorem mv_len (P V : List Flt) (x : Flt) (S : List Flt) (t : Nat) : (mv P V x S t).length = P.length + V.length + 1 + S.length := by
  unfold mv; simp only [List.length_append, List.length_take, List.length_cons, List.length_drop]; omega
theorem mv_all (P V : List Flt) (x : Flt) (S : List Flt) : mv P V x S 0 = P ++ [x] ++ V ++ S ∧ mv P V x S V.length = P ++ V ++ [x] ++ S := by
  constructor <;> simp [mv]

theorem half_of (i j : Nat) : (((i + j : Nat) : Int)) / 2 = (((i + j) / 2 : Nat) : Int) := by omega

theorem smOne (N : Nat) (hN' : N ≤ 1048576) (xs : List Flt) (a m b : Nat) (hxl : xs.length = N) (ham : a < m) (hmb : m < b) (hbN : b ≤ N) (S1 : SrtIx fltCmp a m xs) (S2 : SrtIx fltCmp m b xs) (c1 : m = a + 1) :
    AFn Try.prog 99 [.vec 0 2 N 0 N, .int .i64 a, .int .i64 m, .int .i64 b, fcl] ⟨[], [.vec (xs.map Flt.enc)]⟩
      (fun e σ => e = .ret (.tup []) ∧ σ = ⟨[], [.vec ((segSort fltCmp a b xs).map Flt.enc)]⟩) := by
  have hml : (xs.map Flt.enc).length = N := by rw [List.length_map, hxl]
  refine AFn.enter [] Try.func99 rfl rfl rfl rfl rfl (by decide) ?_
  have d0 : (((m - a : Nat) : Int) == 1) = true := by simp; omega
  repeat' first
    | refine A.sub64 (r := ((m - a : Nat) : Int)) rfl rfl (by omega) (by omega) ?_
    | refine HCode.seq ?_ | refine HCode.region rfl ?_ | refine HCode.region_draw Lay.mix rfl ?_ | refine HCode.block ?_ | refine HCode.scope ?_ | refine HCode.skip ?_ | refine HCode.label ?_ | refine HCode.exit ?_ | refine HCode.ret ?_
    | refine HCode.cond_true rfl ?_ | refine HCode.cond_false rfl ?_ | refine HCode.cond_yes rfl (by assumption) ?_ | refine HCode.cond_no rfl (by assumption) ?_ | (refine HCode.cond rfl ?_ ?_ <;> intro hc)
    | refine A.nil_seq ?_ | refine A.nil (fun _ => rfl) ?_ | refine A.dead rfl ?_ | refine A.yes rfl rfl ?_ | refine A.no rfl rfl ?_ | refine A.yes rfl (by assumption) ?_ | refine A.no rfl (by assumption) ?_ | (refine A.guard rfl ?_ ?_ <;> intro hc)
    | refine A.move rfl ?_ | refine A.assign rfl ?_ | refine A.load_b rfl rfl rfl rfl ?_ | refine A.load_r rfl rfl rfl ?_ | refine A.field_b rfl rfl rfl rfl rfl rfl ?_ | refine A.field_r rfl rfl rfl rfl rfl rfl ?_ | refine A.field rfl rfl rfl rfl rfl ?_
    | refine A.index_r rfl rfl rfl rfl rfl rfl (by assumption) rfl ?_ | refine A.len rfl rfl rfl (by first | rw [List.length_map] | rfl) ?_ | refine A.lens rfl rfl rfl rfl ?_
    | refine A.pick_true rfl rfl rfl ?_ | refine A.pick_false rfl rfl rfl ?_ | refine A.pick_true rfl (by assumption) rfl ?_ | refine A.pick_false rfl (by assumption) rfl ?_
    | refine A.box rfl rfl rfl ?_ | refine A.alloc rfl rfl rfl ?_ | refine A.store rfl rfl rfl rfl rfl ?_ | refine A.build rfl rfl rfl rfl ?_ | refine A.buildSlice rfl rfl rfl rfl rfl rfl rfl ?_
    | refine A.eqi rfl rfl ?_ | refine A.nei rfl rfl ?_ | refine A.lss rfl rfl ?_ | refine A.leq rfl rfl ?_ | refine A.gtr rfl rfl ?_ | refine A.geq rfl rfl ?_ | refine A.eqb rfl rfl rfl rfl ?_ | refine A.neb rfl rfl rfl rfl ?_ | refine A.eqs rfl rfl ?_ | refine A.nes rfl rfl ?_ | refine A.lts rfl rfl ?_ | refine A.gts rfl rfl ?_
    | refine A.not rfl ?_ | refine A.extract rfl rfl ?_ | refine A.add64 rfl rfl rfl (by omega) ?_ | refine A.sub64 rfl rfl rfl (by omega) ?_
  change HCode _ _ _ _ _ _ _
  refine HCode.loop (fun k s σ => ∃ i j : Nat, k = j - i ∧ m ≤ i ∧ i ≤ j ∧ j ≤ b ∧ (m < i → ∀ x y, xs[i - 1]? = some x → xs[a]? = some y → fltCmp x y < 0) ∧ (j < b → ∀ x y, xs[j]? = some x → xs[a]? = some y → ¬ fltCmp x y < 0) ∧ σ = ⟨[], [.vec (xs.map Flt.enc)]⟩ ∧
    s = [(10, .int .i64 i), (11, .int .i64 j), (0, .vec 0 2 N 0 N), (1, .int .i64 a), (4, fcl)])
    (s0 := [(10, .int .i64 m), (11, .int .i64 b), (0, .vec 0 2 N 0 N), (1, .int .i64 a), (4, fcl)])
    ⟨rfl, rfl, rfl, rfl, rfl, trivial⟩ ⟨m, b, rfl, Nat.le_refl _, by omega, Nat.le_refl _, fun h => by omega, fun h => by omega, rfl, rfl⟩ ?_
  rintro k s σ ⟨i, j, rfl, hmi, hij, hjb, q1, q2, rfl, rfl⟩
  by_cases h1 : i < j
  · have d1 : decide ((i : Int) < (j : Int)) = true := by simp [h1]
    have hh : i ≤ (i + j) / 2 ∧ (i + j) / 2 < j := by omega
    generalize hhe : (i + j) / 2 = h at hh
    have hhx : h < xs.length := by omega
    have hax : a < xs.length := by omega
    have x1 : (xs.map Flt.enc)[h]? = some (xs[h].enc) := by rw [List.getElem?_map, List.getElem?_eq_getElem hhx]; rfl
    have x2 : (xs.map Flt.enc)[a]? = some (xs[a].enc) := by rw [List.getElem?_map, List.getElem?_eq_getElem hax]; rfl
    have hb1 : h < N - 0 := by omega
    have hb2 : a < N - 0 := by omega
    have hcc := sortCmp xs[h] xs[a]
    repeat' first
      | refine A.add64 (r := ((i + j : Nat) : Int)) rfl rfl (by omega) (by omega) ?_ | refine A.conv rfl rfl rfl rfl (IntWalk.u64_in _ (by omega)) ?_ | refine A.conv rfl rfl rfl rfl (IntWalk.i64_in _ (by omega)) ?_ | refine A.shr1 (r := ((h : Nat) : Int)) rfl (by rw [← hhe]; exact half_of i j) ?_
      | refine HCode.seq ?_ | refine HCode.region rfl ?_ | refine HCode.region_draw Lay.mix rfl ?_ | refine HCode.block ?_ | refine HCode.scope ?_ | refine HCode.skip ?_ | refine HCode.label ?_ | refine HCode.exit ?_ | refine HCode.ret ?_
      | refine HCode.cond_true rfl ?_ | refine HCode.cond_false rfl ?_ | refine HCode.cond_yes rfl (by assumption) ?_ | refine HCode.cond_no rfl (by assumption) ?_ | (refine HCode.cond rfl ?_ ?_ <;> intro hc)
      | refine A.nil_seq ?_ | refine A.nil (fun _ => rfl) ?_ | refine A.dead rfl ?_ | refine A.yes rfl rfl ?_ | refine A.no rfl rfl ?_ | refine A.yes rfl (by assumption) ?_ | refine A.no rfl (by assumption) ?_ | (refine A.guard rfl ?_ ?_ <;> intro hc)
      | refine A.move rfl ?_ | refine A.assign rfl ?_ | refine A.load_b rfl rfl rfl rfl ?_ | refine A.load_r rfl rfl rfl ?_ | refine A.field_b rfl rfl rfl rfl rfl rfl ?_ | refine A.field_r rfl rfl rfl rfl rfl rfl ?_ | refine A.field rfl rfl rfl rfl rfl ?_
      | refine A.index_r rfl rfl rfl rfl rfl rfl (by assumption) rfl ?_ | refine A.len rfl rfl rfl (by first | rw [List.length_map] | rfl) ?_ | refine A.lens rfl rfl rfl rfl ?_
      | refine A.pick_true rfl rfl rfl ?_ | refine A.pick_false rfl rfl rfl ?_ | refine A.pick_true rfl (by assumption) rfl ?_ | refine A.pick_false rfl (by assumption) rfl ?_
      | refine A.box rfl rfl rfl ?_ | refine A.alloc rfl rfl rfl ?_ | refine A.store rfl rfl rfl rfl rfl ?_ | refine A.build rfl rfl rfl rfl ?_ | refine A.buildSlice rfl rfl rfl rfl rfl rfl rfl ?_
      | refine A.eqi rfl rfl ?_ | refine A.nei rfl rfl ?_ | refine A.lss rfl rfl ?_ | refine A.leq rfl rfl ?_ | refine A.gtr rfl rfl ?_ | refine A.geq rfl rfl ?_ | refine A.eqb rfl rfl rfl rfl ?_ | refine A.neb rfl rfl rfl rfl ?_ | refine A.eqs rfl rfl ?_ | refine A.nes rfl rfl ?_ | refine A.lts rfl rfl ?_ | refine A.gts rfl rfl ?_
      | refine A.not rfl ?_ | refine A.extract rfl rfl ?_ | refine A.add64 rfl rfl rfl (by omega) ?_ | refine A.sub64 rfl rfl rfl (by omega) ?_
      | refine A.vindex rfl rfl rfl rfl rfl rfl rfl (by assumption) (Nat.zero_add _) ?_ | refine A.vfield rfl rfl rfl rfl rfl rfl ?_ | refine A.vload rfl rfl rfl (by assumption) (by assumption) rfl ?_ | refine A.vlen rfl rfl rfl rfl ?_ | refine A.callv rfl rfl hcc (WeakL.refl _) ?_
    · refine ⟨j - (h + 1), by omega, [(10, .int .i64 ((h + 1 : Nat) : Int)), (11, .int .i64 j), (0, .vec 0 2 N 0 N), (1, .int .i64 a), (4, fcl)], ⟨rfl, rfl, rfl, rfl, rfl, trivial⟩, rfl, by simp [belowB, belowT, Tok.low, Flt.lowL],
        h + 1, j, rfl, by omega, by omega, hjb, fun _ x y f1 f2 => ?_, q2, rfl, rfl⟩
      rw [show h + 1 - 1 = h by omega, List.getElem?_eq_getElem hhx] at f1
      rw [List.getElem?_eq_getElem hax] at f2
      cases f1; cases f2
      simpa using hc
    · refine ⟨h - i, by omega, [(10, .int .i64 i), (11, .int .i64 ((h : Nat) : Int)), (0, .vec 0 2 N 0 N), (1, .int .i64 a), (4, fcl)], ⟨rfl, rfl, rfl, rfl, rfl, trivial⟩, rfl, by simp [belowB, belowT, Tok.low, Flt.lowL],
        i, h, rfl, hmi, by omega, by omega, q1, fun _ x y f1 f2 => ?_, rfl, rfl⟩
      rw [List.getElem?_eq_getElem hhx] at f1
      rw [List.getElem?_eq_getElem hax] at f2
      cases f1; cases f2
      simpa using hc
  · have d1 : decide ((i : Int) < (j : Int)) = false := by simp; omega
    have hij2 : i = j := by omega
    subst hij2
    obtain ⟨P, U, V, S, ex, hP, hU, hV⟩ := split4 (xs := xs) (a := a) (m := m) (b := i) (by omega) hmi (by omega)
    obtain ⟨x, rfl⟩ : ∃ x, U = [x] := by
      match U, hU with
      | [x], _ => exact ⟨x, rfl⟩
      | [], h => simp at h; omega
      | _ :: _ :: _, h => simp at h; omega
    have hxa : xs[a]? = some x := by
      rw [ex, List.append_assoc, List.append_assoc, List.getElem?_append_right (by omega), hP, Nat.sub_self]; rfl
    have hfin : P ++ V ++ [x] ++ S = segSort fltCmp a b xs := by
      rw [ex]
      refine ins_up fltCmp_cmp hP hV (by omega) (by rw [← ex]; omega) (by rw [← ex, ← c1]; exact S2) (fun h y f1 => ?_) (fun h y f1 => ?_)
      · rw [← ex, show a + (i - m) = i - 1 by omega] at f1
        exact q1 (by omega) y x f1 hxa
      · rw [← ex, show a + 1 + (i - m) = i by omega] at f1
        exact q2 (by omega) y x f1 hxa
    have hst : mv P V x S 0 = xs := by rw [(mv_all P V x S).1, ex]
    have hmvl : ∀ t, ((mv P V x S t).map Flt.enc).length = N := by
      intro t
      have := congrArg List.length hst
      rw [mv_len] at this
      rw [List.length_map, mv_len]; omega
    repeat' first
      | refine HCode.seq ?_ | refine HCode.region rfl ?_ | refine HCode.region_draw Lay.mix rfl ?_ | refine HCode.block ?_ | refine HCode.scope ?_ | refine HCode.skip ?_ | refine HCode.label ?_ | refine HCode.exit ?_ | refine HCode.ret ?_
      | refine HCode.cond_true rfl ?_ | refine HCode.cond_false rfl ?_ | refine HCode.cond_yes rfl (by assumption) ?_ | refine HCode.cond_no rfl (by assumption) ?_ | (refine HCode.cond rfl ?_ ?_ <;> intro hc)
      | refine A.nil_seq ?_ | refine A.nil (fun _ => rfl) ?_ | refine A.dead rfl ?_ | refine A.yes rfl rfl ?_ | refine A.no rfl rfl ?_ | refine A.yes rfl (by assumption) ?_ | refine A.no rfl (by assumption) ?_ | (refine A.guard rfl ?_ ?_ <;> intro hc)
      | refine A.move rfl ?_ | refine A.assign rfl ?_ | refine A.load_b rfl rfl rfl rfl ?_ | refine A.load_r rfl rfl rfl ?_ | refine A.field_b rfl rfl rfl rfl rfl rfl ?_ | refine A.field_r rfl rfl rfl rfl rfl rfl ?_ | refine A.field rfl rfl rfl rfl rfl ?_
      | refine A.index_r rfl rfl rfl rfl rfl rfl (by assumption) rfl ?_ | refine A.len rfl rfl rfl (by first | rw [List.length_map] | rfl) ?_ | refine A.lens rfl rfl rfl rfl ?_
      | refine A.pick_true rfl rfl rfl ?_ | refine A.pick_false rfl rfl rfl ?_ | refine A.pick_true rfl (by assumption) rfl ?_ | refine A.pick_false rfl (by assumption) rfl ?_
      | refine A.box rfl rfl rfl ?_ | refine A.alloc rfl rfl rfl ?_ | refine A.store rfl rfl rfl rfl rfl ?_ | refine A.build rfl rfl rfl rfl ?_ | refine A.buildSlice rfl rfl rfl rfl rfl rfl rfl ?_
      | refine A.eqi rfl rfl ?_ | refine A.nei rfl rfl ?_ | refine A.lss rfl rfl ?_ | refine A.leq rfl rfl ?_ | refine A.gtr rfl rfl ?_ | refine A.geq rfl rfl ?_ | refine A.eqb rfl rfl rfl rfl ?_ | refine A.neb rfl rfl rfl rfl ?_ | refine A.eqs rfl rfl ?_ | refine A.nes rfl rfl ?_ | refine A.lts rfl rfl ?_ | refine A.gts rfl rfl ?_
      | refine A.not rfl ?_ | refine A.extract rfl rfl ?_ | refine A.add64 rfl rfl rfl (by omega) ?_ | refine A.sub64 rfl rfl rfl (by omega) ?_
    change HCode _ _ _ _ _ _ _
    refine HCode.loop (fun k s σ => ∃ t : Nat, k = i - m - t ∧ t ≤ i - m ∧ σ = ⟨[], [.vec ((mv P V x S t).map Flt.enc)]⟩ ∧ s = [(13, .int .i64 (a + t : Nat)), (10, .int .i64 i), (0, .vec 0 2 N 0 N)])
      (s0 := [(13, .int .i64 a), (10, .int .i64 i), (0, .vec 0 2 N 0 N)])
      ⟨rfl, rfl, rfl, trivial⟩ ⟨0, rfl, Nat.zero_le _, by rw [hst], rfl⟩ ?_
    rintro k s σ ⟨t, rfl, ht, rfl, rfl⟩
    have hml2 := hmvl t
    by_cases h2 : t < i - m
    · have d2 : decide (((a + t : Nat) : Int) < ((i - 1 : Nat) : Int)) = true := by simp; omega
      have htV : t < V.length := by omega
      obtain ⟨g1, g2, -, -, g5, -⟩ := mv_ix P V x S t a hP htV
      have x1 : ((mv P V x S t).map Flt.enc)[a + t]? = some (x.enc) := by rw [List.getElem?_map, g1]; rfl
      have x2 : ((mv P V x S t).map Flt.enc)[a + t + 1]? = some (V[t].enc) := by rw [List.getElem?_map, g2]; rfl
      have x3 : (((mv P V x S t).map Flt.enc).set (a + t) V[t].enc)[a + t + 1]? = some (V[t].enc) := by rw [List.getElem?_set_ne (by omega)]; exact x2
      have hb1 : a + t < N - 0 := by have := List.getElem?_eq_some_iff.1 x1; omega
      have hb2 : a + t + 1 < N - 0 := by have := List.getElem?_eq_some_iff.1 x2; omega
      have hl2 : (((mv P V x S t).map Flt.enc).set (a + t) V[t].enc).length = N := by rw [List.length_set]; exact hml2
      repeat' first
        | refine A.sub64 (r := ((i - 1 : Nat) : Int)) rfl rfl (by omega) (by omega) ?_ | refine A.add64 (r := ((a + t + 1 : Nat) : Int)) rfl rfl (by omega) (by omega) ?_
        | refine HCode.seq ?_ | refine HCode.region rfl ?_ | refine HCode.region_draw Lay.mix rfl ?_ | refine HCode.block ?_ | refine HCode.scope ?_ | refine HCode.skip ?_ | refine HCode.label ?_ | refine HCode.exit ?_ | refine HCode.ret ?_
        | refine HCode.cond_true rfl ?_ | refine HCode.cond_false rfl ?_ | refine HCode.cond_yes rfl (by assumption) ?_ | refine HCode.cond_no rfl (by assumption) ?_ | (refine HCode.cond rfl ?_ ?_ <;> intro hc)
        | refine A.nil_seq ?_ | refine A.nil (fun _ => rfl) ?_ | refine A.dead rfl ?_ | refine A.yes rfl rfl ?_ | refine A.no rfl rfl ?_ | refine A.yes rfl (by assumption) ?_ | refine A.no rfl (by assumption) ?_ | (refine A.guard rfl ?_ ?_ <;> intro hc)
        | refine A.move rfl ?_ | refine A.assign rfl ?_ | refine A.load_b rfl rfl rfl rfl ?_ | refine A.load_r rfl rfl rfl ?_ | refine A.field_b rfl rfl rfl rfl rfl rfl ?_ | refine A.field_r rfl rfl rfl rfl rfl rfl ?_ | refine A.field rfl rfl rfl rfl rfl ?_
        | refine A.index_r rfl rfl rfl rfl rfl rfl (by assumption) rfl ?_ | refine A.len rfl rfl rfl (by first | rw [List.length_map] | rfl) ?_ | refine A.lens rfl rfl rfl rfl ?_
        | refine A.pick_true rfl rfl rfl ?_ | refine A.pick_false rfl rfl rfl ?_ | refine A.pick_true rfl (by assumption) rfl ?_ | refine A.pick_false rfl (by assumption) rfl ?_
        | refine A.box rfl rfl rfl ?_ | refine A.alloc rfl rfl rfl ?_ | refine A.store rfl rfl rfl rfl rfl ?_ | refine A.build rfl rfl rfl rfl ?_ | refine A.buildSlice rfl rfl rfl rfl rfl rfl rfl ?_
        | refine A.eqi rfl rfl ?_ | refine A.nei rfl rfl ?_ | refine A.lss rfl rfl ?_ | refine A.leq rfl rfl ?_ | refine A.gtr rfl rfl ?_ | refine A.geq rfl rfl ?_ | refine A.eqb rfl rfl rfl rfl ?_ | refine A.neb rfl rfl rfl rfl ?_ | refine A.eqs rfl rfl ?_ | refine A.nes rfl rfl ?_ | refine A.lts rfl rfl ?_ | refine A.gts rfl rfl ?_
        | refine A.not rfl ?_ | refine A.extract rfl rfl ?_ | refine A.add64 rfl rfl rfl (by omega) ?_ | refine A.sub64 rfl rfl rfl (by omega) ?_
        | refine A.vindex rfl rfl rfl rfl rfl rfl rfl (by assumption) (Nat.zero_add _) ?_ | refine A.vfield rfl rfl rfl rfl rfl rfl ?_ | refine A.vload rfl rfl rfl (by assumption) (by assumption) rfl ?_ | refine A.vlen rfl rfl rfl rfl ?_ | refine A.vstore (agg := true) rfl rfl rfl rfl rfl hml2 x1 rfl rfl rfl rfl ?_ | refine A.vstore (agg := true) rfl rfl rfl rfl rfl hl2 x3 rfl rfl rfl rfl ?_
      have hsw : (((mv P V x S t).map Flt.enc).set (a + t) (AV.agg [V[t].path.enc, .int .i64 V[t].e])).set (a + t + 1) (AV.agg [x.path.enc, .int .i64 x.e]) = (mv P V x S (t + 1)).map Flt.enc := by
        rw [← g5, List.map_set, List.map_set]; rfl
      refine ⟨i - m - (t + 1), by omega, [(13, .int .i64 ((a + t + 1 : Nat) : Int)), (10, .int .i64 i), (0, .vec 0 2 N 0 N)], ⟨rfl, rfl, rfl, trivial⟩, rfl, ?_, t + 1, rfl, by omega, ?_, rfl⟩
      · rw [hsw]; simp [belowB, belowT, Tok.low, Flt.lowL, -List.map_set]
      · rw [hsw]; rfl
    · have d2 : decide (((a + t : Nat) : Int) < ((i - 1 : Nat) : Int)) = false := by simp; omega
      have : t = V.length := by omega
      subst this
      repeat' first
        | refine A.sub64 (r := ((i - 1 : Nat) : Int)) rfl rfl (by omega) (by omega) ?_
        | refine HCode.seq ?_ | refine HCode.region rfl ?_ | refine HCode.region_draw Lay.mix rfl ?_ | refine HCode.block ?_ | refine HCode.scope ?_ | refine HCode.skip ?_ | refine HCode.label ?_ | refine HCode.exit ?_ | refine HCode.ret ?_
        | refine HCode.cond_true rfl ?_ | refine HCode.cond_false rfl ?_ | refine HCode.cond_yes rfl (by assumption) ?_ | refine HCode.cond_no rfl (by assumption) ?_ | (refine HCode.cond rfl ?_ ?_ <;> intro hc)
        | refine A.nil_seq ?_ | refine A.nil (fun _ => rfl) ?_ | refine A.dead rfl ?_ | refine A.yes rfl rfl ?_ | refine A.no rfl rfl ?_ | refine A.yes rfl (by assumption) ?_ | refine A.no rfl (by assumption) ?_ | (refine A.guard rfl ?_ ?_ <;> intro hc)
        | refine A.move rfl ?_ | refine A.assign rfl ?_ | refine A.load_b rfl rfl rfl rfl ?_ | refine A.load_r rfl rfl rfl ?_ | refine A.field_b rfl rfl rfl rfl rfl rfl ?_ | refine A.field_r rfl rfl rfl rfl rfl rfl ?_ | refine A.field rfl rfl rfl rfl rfl ?_
        | refine A.index_r rfl rfl rfl rfl rfl rfl (by assumption) rfl ?_ | refine A.len rfl rfl rfl (by first | rw [List.length_map] | rfl) ?_ | refine A.lens rfl rfl rfl rfl ?_
        | refine A.pick_true rfl rfl rfl ?_ | refine A.pick_false rfl rfl rfl ?_ | refine A.pick_true rfl (by assumption) rfl ?_ | refine A.pick_false rfl (by assumption) rfl ?_
        | refine A.box rfl rfl rfl ?_ | refine A.alloc rfl rfl rfl ?_ | refine A.store rfl rfl rfl rfl rfl ?_ | refine A.build rfl rfl rfl rfl ?_ | refine A.buildSlice rfl rfl rfl rfl rfl rfl rfl ?_
        | refine A.eqi rfl rfl ?_ | refine A.nei rfl rfl ?_ | refine A.lss rfl rfl ?_ | refine A.leq rfl rfl ?_ | refine A.gtr rfl rfl ?_ | refine A.geq rfl rfl ?_ | refine A.eqb rfl rfl rfl rfl ?_ | refine A.neb rfl rfl rfl rfl ?_ | refine A.eqs rfl rfl ?_ | refine A.nes rfl rfl ?_ | refine A.lts rfl rfl ?_ | refine A.gts rfl rfl ?_
        | refine A.not rfl ?_ | refine A.extract rfl rfl ?_ | refine A.add64 rfl rfl rfl (by omega) ?_ | refine A.sub64 rfl rfl rfl (by omega) ?_
      exact ⟨rfl, by rw [(mv_all P V x S).2, hfin]⟩
end Go.Proofs.Ytajddgpkflbnaaa
