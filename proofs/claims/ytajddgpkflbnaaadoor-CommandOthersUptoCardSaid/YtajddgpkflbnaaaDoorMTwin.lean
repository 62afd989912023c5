/-
  The package table: Twin, in new memory.
-/
import Derived.Test.YtajddgpkflbnaaaDoorAvRen4
import Derived.Test.YtajddgpkflbnaaaDoorMFind
namespace Go.Proofs.YtajddgpkflbnaaaDoor
open Go Go.Av
set_option maxRecDepth 100000
set_option maxHeartbeats 4000000
set_option linter.unusedVariables false
set_option linter.unusedSimpArgs false
attribute [local irreducible] HCode AOps PFn AFn Av.Step TStep

/-- Table i of the twin: its rows may be written by token 1. -/
def openT (t : Tbl) : AV := .agg [.str t.name, .vec 1 4 t.rows.length 0 t.rows.length]
/-- The first k tables of the twin, of which table i is open. -/
def twinPre (l : List Tbl) (i k : Nat) : List AV :=
  match l[i]? with
  | some t => ((l.take k).map Tbl.enc).set i (openT t)
  | none => (l.take k).map Tbl.enc
def twinTok (l : List Tbl) (i k : Nat) : List Tok :=
  match l[i]? with
  | some t => if i < k then [.vec (twinPre l i k), .vec (t.rows.map Row.enc)] else [.vec (twinPre l i k)]
  | none => [.vec (twinPre l i k)]

theorem twinPre_len (l : List Tbl) (i k : Nat) (h : k ≤ l.length) : (twinPre l i k).length = k := by
  unfold twinPre; split <;> simp <;> omega
theorem lowL_append {a n : Nat} : ∀ (xs ys : List AV), AV.lowL a n (xs ++ ys) = (AV.lowL a n xs && AV.lowL a n ys)
  | [], ys => by simp [AV.lowL]
  | x :: xs, ys => by rw [List.cons_append, AV.lowL, AV.lowL, lowL_append xs ys, Bool.and_assoc]
theorem twinPre_low {a n : Nat} (l : List Tbl) (i k : Nat) (h : i < k → 1 < n) : AV.lowL a n (twinPre l i k) = true := by
  have hc : ∀ L : List Tbl, AV.lowL a n (L.map Tbl.enc) = true := fun L => Tbl.lowL a n L
  unfold twinPre
  split
  · rename_i t ht
    by_cases hik : i < k
    · have key : ∀ (L : List AV) (j : Nat) (y : AV), AV.lowL a n L = true → y.low a n = true → AV.lowL a n (L.set j y) = true := by
        intro L
        induction L with
        | nil => intro j y h1 h2; exact h1
        | cons b L ih =>
          intro j y h1 h2
          simp only [AV.lowL, Bool.and_eq_true] at h1
          cases j with
          | zero => simp only [List.set_cons_zero, AV.lowL, Bool.and_eq_true]; exact ⟨h2, h1.2⟩
          | succ j => simp only [List.set_cons_succ, AV.lowL, Bool.and_eq_true]; exact ⟨h1.1, ih j y h1.2 h2⟩
      refine key _ _ _ (hc _) ?_
      simp [openT, AV.low, AV.lowL, h hik]
    · rw [List.set_eq_of_length_le (by simp; omega)]
      exact hc _
  · exact hc _
theorem twinPre_next (l : List Tbl) (i k : Nat) (hk : k < l.length) : twinPre l i (k + 1) = twinPre l i k ++ [if i = k then openT l[k] else l[k].enc] := by
  have hm : (l.take (k + 1)).map Tbl.enc = (l.take k).map Tbl.enc ++ [l[k].enc] := by
    rw [List.take_succ_eq_append_getElem hk, List.map_append]; rfl
  have hlen : ((l.take k).map Tbl.enc).length = k := by simp; omega
  unfold twinPre
  split
  · rename_i t ht
    rw [hm]
    by_cases e : i = k
    · subst e
      have : t = l[i] := by rw [List.getElem?_eq_getElem hk] at ht; exact (Option.some.inj ht).symm
      subst this
      rw [List.set_append_right _ _ (by omega), hlen, Nat.sub_self, if_pos rfl, List.set_eq_of_length_le (l := (l.take i).map Tbl.enc) (by omega)]
      rfl
    · rw [if_neg e]
      by_cases h : i < k
      · rw [List.set_append_left _ _ (by omega)]
      · rw [List.set_append_right _ _ (by omega), hlen, List.set_eq_of_length_le (l := (l.take k).map Tbl.enc) (by omega), List.set_eq_of_length_le (by simp; omega)]
  · rename_i ht
    rw [hm, if_neg (fun e => by subst e; rw [List.getElem?_eq_getElem hk] at ht; cases ht)]

theorem take_enc {α : Type} {f : α → AV} {l : List α} {j : Nat} (h : j < l.length) : (l.take j).map f ++ [f l[j]] = (l.take (j + 1)).map f := by
  rw [List.take_succ_eq_append_getElem h, List.map_append]; rfl

theorem twinTok_a (l : List Tbl) (i k : Nat) (h : i < k) (hl : i < l.length) : twinTok l i k = [.vec (twinPre l i k), .vec (l[i].rows.map Row.enc)] := by
  unfold twinTok; rw [List.getElem?_eq_getElem hl]; simp only [if_pos h]
theorem twinTok_b (l : List Tbl) (i k : Nat) (h : ¬ i < k) : twinTok l i k = [.vec (twinPre l i k)] := by
  unfold twinTok; split <;> simp [h]

theorem twinA (l : List Tbl) (i : Nat) (hl : l.length ≤ 1048576) (hr : ∀ t ∈ l, t.rows.length ≤ 1048576) (hcl : ∀ t ∈ l, ∀ r ∈ t.rows, r.cols.length ≤ 1048576) :
    AFn Tryd.prog 57 [Tbls.enc l] ⟨[], []⟩ (fun e σ => e = .ret (.vec 0 2 l.length 0 l.length) ∧ σ = ⟨[], twinTok l i l.length⟩) := by
  refine AFn.enter [2] Tryd.func57 rfl rfl rfl rfl rfl (by decide) ?_
  repeat' first
    | refine HCode.seq ?_ | refine HCode.region rfl ?_ | refine HCode.region_draw Lay.mix rfl ?_ | refine HCode.block ?_ | refine HCode.scope ?_ | refine HCode.skip ?_ | refine HCode.label ?_ | refine HCode.exit ?_ | refine HCode.ret ?_
    | refine HCode.cond_true rfl ?_ | refine HCode.cond_false rfl ?_ | refine HCode.cond_yes rfl (by assumption) ?_ | refine HCode.cond_no rfl (by assumption) ?_ | (refine HCode.cond rfl ?_ ?_ <;> intro hc)
    | refine A.nil_seq ?_ | refine A.nil (fun _ => rfl) ?_ | refine A.dead rfl ?_ | refine A.yes rfl rfl ?_ | refine A.no rfl rfl ?_ | refine A.yes rfl (by assumption) ?_ | refine A.no rfl (by assumption) ?_ | (refine A.guard rfl ?_ ?_ <;> intro hc)
    | refine A.move rfl ?_ | refine A.assign rfl ?_ | refine A.load_b rfl rfl rfl rfl ?_ | refine A.load_r rfl rfl rfl ?_ | refine A.field_b rfl rfl rfl rfl rfl rfl ?_ | refine A.field_r rfl rfl rfl rfl rfl rfl ?_ | refine A.field rfl rfl rfl rfl rfl ?_
    | refine A.index_r rfl rfl rfl rfl rfl rfl (by assumption) rfl ?_ | refine A.len rfl rfl rfl (by first | rw [List.length_map] | rfl) ?_ | refine A.lens rfl rfl rfl rfl ?_
    | refine A.pick_true rfl rfl rfl ?_ | refine A.pick_false rfl rfl rfl ?_ | refine A.pick_true rfl (by assumption) rfl ?_ | refine A.pick_false rfl (by assumption) rfl ?_
    | refine A.box rfl rfl rfl ?_ | refine A.alloc rfl rfl rfl ?_ | refine A.store rfl rfl rfl rfl rfl ?_ | refine A.build rfl rfl rfl rfl ?_ | refine A.buildSlice rfl rfl rfl rfl rfl rfl rfl ?_
    | refine A.eqi rfl rfl ?_ | refine A.nei rfl rfl ?_ | refine A.lss rfl rfl ?_ | refine A.leq rfl rfl ?_ | refine A.gtr rfl rfl ?_ | refine A.geq rfl rfl ?_ | refine A.eqb rfl rfl rfl rfl ?_ | refine A.neb rfl rfl rfl rfl ?_ | refine A.eqs rfl rfl ?_ | refine A.nes rfl rfl ?_ | refine A.lts rfl rfl ?_ | refine A.gts rfl rfl ?_
    | refine A.not rfl ?_ | refine A.extract rfl rfl ?_ | refine A.add64 rfl rfl rfl (by omega) ?_ | refine A.sub64 rfl rfl rfl (by omega) ?_
  change HCode _ _ _ _ _ _ _
  refine HCode.turn 3 rfl (Turn.vadopt (z := 2) rfl rfl rfl) ?_
  refine HCode.loopG (fun n s σ => ∃ k : Nat, n = l.length - k ∧ k ≤ l.length ∧ σ = ⟨[], twinTok l i k⟩ ∧ s = [(11, .int .i64 k), (10, .int .i64 l.length), (9, Tbls.enc l), (3, .vec 0 2 k 0 k)])
    (s0 := [(11, .int .i64 (0 : Nat)), (10, .int .i64 l.length), (9, Tbls.enc l), (3, .vec 0 2 0 0 0)])
    ⟨rfl, rfl, rfl, rfl, trivial⟩ ⟨0, rfl, Nat.zero_le _, (by rw [twinTok_b l i 0 (by omega)]; unfold twinPre; split <;> rfl), rfl⟩ ?_
  rintro n s σ ⟨k, rfl, hk, rfl, rfl⟩
  by_cases h1 : k < l.length
  · have d1 : decide ((k : Int) < (l.length : Int)) = true := by simp [h1]
    have x1 := map_get' (f := Tbl.enc) h1
    have hrl := hr _ (List.getElem_mem h1)
    have hpl := twinPre_len l i k hk
    have hnx := twinPre_next l i k h1
    rcases Nat.lt_trichotomy i k with hik | hik | hik
    · rw [twinTok_a l i k hik (by omega)]
      repeat' first
        | refine HCode.seq ?_ | refine HCode.region rfl ?_ | refine HCode.region_draw Lay.mix rfl ?_ | refine HCode.block ?_ | refine HCode.scope ?_ | refine HCode.skip ?_ | refine HCode.label ?_ | refine HCode.exit ?_ | refine HCode.ret ?_
        | refine HCode.cond_true rfl ?_ | refine HCode.cond_false rfl ?_ | refine HCode.cond_yes rfl (by assumption) ?_ | refine HCode.cond_no rfl (by assumption) ?_ | (refine HCode.cond rfl ?_ ?_ <;> intro hc)
        | refine A.nil_seq ?_ | refine A.nil (fun _ => rfl) ?_ | refine A.dead rfl ?_ | refine A.yes rfl rfl ?_ | refine A.no rfl rfl ?_ | refine A.yes rfl (by assumption) ?_ | refine A.no rfl (by assumption) ?_ | (refine A.guard rfl ?_ ?_ <;> intro hc)
        | refine A.move rfl ?_ | refine A.assign rfl ?_ | refine A.load_b rfl rfl rfl rfl ?_ | refine A.load_r rfl rfl rfl ?_ | refine A.field_b rfl rfl rfl rfl rfl rfl ?_ | refine A.field_r rfl rfl rfl rfl rfl rfl ?_ | refine A.field rfl rfl rfl rfl rfl ?_
        | refine A.index_r rfl rfl rfl rfl rfl rfl (by assumption) rfl ?_ | refine A.len rfl rfl rfl (by first | rw [List.length_map] | rfl) ?_ | refine A.lens rfl rfl rfl rfl ?_
        | refine A.pick_true rfl rfl rfl ?_ | refine A.pick_false rfl rfl rfl ?_ | refine A.pick_true rfl (by assumption) rfl ?_ | refine A.pick_false rfl (by assumption) rfl ?_
        | refine A.box rfl rfl rfl ?_ | refine A.alloc rfl rfl rfl ?_ | refine A.store rfl rfl rfl rfl rfl ?_ | refine A.build rfl rfl rfl rfl ?_ | refine A.buildSlice rfl rfl rfl rfl rfl rfl rfl ?_
        | refine A.eqi rfl rfl ?_ | refine A.nei rfl rfl ?_ | refine A.lss rfl rfl ?_ | refine A.leq rfl rfl ?_ | refine A.gtr rfl rfl ?_ | refine A.geq rfl rfl ?_ | refine A.eqb rfl rfl rfl rfl ?_ | refine A.neb rfl rfl rfl rfl ?_ | refine A.eqs rfl rfl ?_ | refine A.nes rfl rfl ?_ | refine A.lts rfl rfl ?_ | refine A.gts rfl rfl ?_
        | refine A.not rfl ?_ | refine A.extract rfl rfl ?_ | refine A.add64 rfl rfl rfl (by omega) ?_ | refine A.sub64 rfl rfl rfl (by omega) ?_
      change HCode _ _ _ _ _ _ _
      refine HCode.turnB 0 1 rfl rfl (Turn.vadopt (z := 4) rfl rfl rfl) rfl ?_
      refine HCode.loop (fun n s σ => ∃ j : Nat, n = l[k].rows.length - j ∧ j ≤ l[k].rows.length ∧ σ = ⟨[.cells [.str l[k].name, .vec 2 4 j 0 j]], [.vec (twinPre l i k), .vec (l[i].rows.map Row.enc)] ++ [.vec ((l[k].rows.take j).map Row.enc)]⟩ ∧
        s = [(20, .int .i64 j), (19, .int .i64 l[k].rows.length), (18, .slice (l[k].rows.map Row.enc) .no), (11, .int .i64 k), (10, .int .i64 l.length), (9, Tbls.enc l), (3, .vec 0 2 k 0 k), (5, .ptr 0 0)])
        (s0 := [(20, .int .i64 (0 : Nat)), (19, .int .i64 l[k].rows.length), (18, .slice (l[k].rows.map Row.enc) .no), (11, .int .i64 k), (10, .int .i64 l.length), (9, Tbls.enc l), (3, .vec 0 2 k 0 k), (5, .ptr 0 0)])
        ⟨rfl, rfl, rfl, rfl, rfl, rfl, rfl, rfl, trivial⟩ ⟨0, rfl, Nat.zero_le _, rfl, rfl⟩ ?_
      rintro n s σ ⟨j, rfl, hj, rfl, rfl⟩
      have hjl : ((l[k].rows.take j).map Row.enc).length = j := by simp; omega
      by_cases h2 : j < l[k].rows.length
      · have d2 : decide ((j : Int) < (l[k].rows.length : Int)) = true := by simp [h2]
        have x2 := map_get' (f := Row.enc) h2
        have ht := twin l[k].rows[j] (hcl _ (List.getElem_mem h1) _ (List.getElem_mem h2))
        repeat' first
          | refine HCode.seq ?_ | refine HCode.region rfl ?_ | refine HCode.region_draw Lay.mix rfl ?_ | refine HCode.block ?_ | refine HCode.scope ?_ | refine HCode.skip ?_ | refine HCode.label ?_ | refine HCode.exit ?_ | refine HCode.ret ?_
          | refine HCode.cond_true rfl ?_ | refine HCode.cond_false rfl ?_ | refine HCode.cond_yes rfl (by assumption) ?_ | refine HCode.cond_no rfl (by assumption) ?_ | (refine HCode.cond rfl ?_ ?_ <;> intro hc)
          | refine A.nil_seq ?_ | refine A.nil (fun _ => rfl) ?_ | refine A.dead rfl ?_ | refine A.yes rfl rfl ?_ | refine A.no rfl rfl ?_ | refine A.yes rfl (by assumption) ?_ | refine A.no rfl (by assumption) ?_ | (refine A.guard rfl ?_ ?_ <;> intro hc)
          | refine A.move rfl ?_ | refine A.assign rfl ?_ | refine A.load_b rfl rfl rfl rfl ?_ | refine A.load_r rfl rfl rfl ?_ | refine A.field_b rfl rfl rfl rfl rfl rfl ?_ | refine A.field_r rfl rfl rfl rfl rfl rfl ?_ | refine A.field rfl rfl rfl rfl rfl ?_
          | refine A.index_r rfl rfl rfl rfl rfl rfl (by assumption) rfl ?_ | refine A.len rfl rfl rfl (by first | rw [List.length_map] | rfl) ?_ | refine A.lens rfl rfl rfl rfl ?_
          | refine A.pick_true rfl rfl rfl ?_ | refine A.pick_false rfl rfl rfl ?_ | refine A.pick_true rfl (by assumption) rfl ?_ | refine A.pick_false rfl (by assumption) rfl ?_
          | refine A.box rfl rfl rfl ?_ | refine A.alloc rfl rfl rfl ?_ | refine A.store rfl rfl rfl rfl rfl ?_ | refine A.build rfl rfl rfl rfl ?_ | refine A.buildSlice rfl rfl rfl rfl rfl rfl rfl ?_
          | refine A.eqi rfl rfl ?_ | refine A.nei rfl rfl ?_ | refine A.lss rfl rfl ?_ | refine A.leq rfl rfl ?_ | refine A.gtr rfl rfl ?_ | refine A.geq rfl rfl ?_ | refine A.eqb rfl rfl rfl rfl ?_ | refine A.neb rfl rfl rfl rfl ?_ | refine A.eqs rfl rfl ?_ | refine A.nes rfl rfl ?_ | refine A.lts rfl rfl ?_ | refine A.gts rfl rfl ?_
          | refine A.not rfl ?_ | refine A.extract rfl rfl ?_ | refine A.add64 rfl rfl rfl (by omega) ?_ | refine A.sub64 rfl rfl rfl (by omega) ?_
          | refine A.call rfl ht (WeakL.refl _) ?_ | refine A.vappend (m := j + 1) rfl rfl rfl rfl rfl rfl rfl rfl hjl rfl rfl (by dsimp only; omega) (by omega) rfl ?_
        refine ⟨l[k].rows.length - (j + 1), by omega, [(20, .int .i64 ((j + 1 : Nat) : Int)), (19, .int .i64 l[k].rows.length), (18, .slice (l[k].rows.map Row.enc) .no), (11, .int .i64 k), (10, .int .i64 l.length), (9, Tbls.enc l), (3, .vec 0 2 k 0 k), (5, .ptr 0 0)],
          ⟨rfl, rfl, rfl, rfl, rfl, rfl, rfl, rfl, trivial⟩, by simp [belowS, AV.low, Row.lowL, Tbls.enc, Tbl.lowL], ?_, j + 1, rfl, by omega, ?_, rfl⟩
        · have hp2 := twinPre_low (a := 1) (n := 2 + 1) l i k (by omega)
          have hp4 := Row.lowL 1 (2 + 1) (l[k].rows.take j)
          simp [-List.map_take, belowB, belowT, Ob.low, Tok.low, AV.lowL, AV.low, lowL_append, hp2, hp4, Mem.lowL, Row.lowL]
        · rw [← take_enc h2]; rfl
      · have d2 : decide ((j : Int) < (l[k].rows.length : Int)) = false := by simp; omega
        have hjn : j = l[k].rows.length := by omega
        subst hjn
        have hfl := hjl
        have hcan : (((l[k].rows.take l[k].rows.length).map Row.enc).take l[k].rows.length).drop 0 = l[k].rows.map Row.enc := by rw [List.take_length, List.drop_zero, List.take_of_length_le (by simp)]
        repeat' first
          | refine HCode.turnB 0 1 rfl rfl ((Turn.freeze rfl hfl rfl).trans (Turn.weak (Weak.no (WeakL.eq hcan)))) rfl ?_
          | refine HCode.seq ?_ | refine HCode.region rfl ?_ | refine HCode.region_draw Lay.mix rfl ?_ | refine HCode.block ?_ | refine HCode.scope ?_ | refine HCode.skip ?_ | refine HCode.label ?_ | refine HCode.exit ?_ | refine HCode.ret ?_
          | refine HCode.cond_true rfl ?_ | refine HCode.cond_false rfl ?_ | refine HCode.cond_yes rfl (by assumption) ?_ | refine HCode.cond_no rfl (by assumption) ?_ | (refine HCode.cond rfl ?_ ?_ <;> intro hc)
          | refine A.nil_seq ?_ | refine A.nil (fun _ => rfl) ?_ | refine A.dead rfl ?_ | refine A.yes rfl rfl ?_ | refine A.no rfl rfl ?_ | refine A.yes rfl (by assumption) ?_ | refine A.no rfl (by assumption) ?_ | (refine A.guard rfl ?_ ?_ <;> intro hc)
          | refine A.move rfl ?_ | refine A.assign rfl ?_ | refine A.load_b rfl rfl rfl rfl ?_ | refine A.load_r rfl rfl rfl ?_ | refine A.field_b rfl rfl rfl rfl rfl rfl ?_ | refine A.field_r rfl rfl rfl rfl rfl rfl ?_ | refine A.field rfl rfl rfl rfl rfl ?_
          | refine A.index_r rfl rfl rfl rfl rfl rfl (by assumption) rfl ?_ | refine A.len rfl rfl rfl (by first | rw [List.length_map] | rfl) ?_ | refine A.lens rfl rfl rfl rfl ?_
          | refine A.pick_true rfl rfl rfl ?_ | refine A.pick_false rfl rfl rfl ?_ | refine A.pick_true rfl (by assumption) rfl ?_ | refine A.pick_false rfl (by assumption) rfl ?_
          | refine A.box rfl rfl rfl ?_ | refine A.alloc rfl rfl rfl ?_ | refine A.store rfl rfl rfl rfl rfl ?_ | refine A.build rfl rfl rfl rfl ?_ | refine A.buildSlice rfl rfl rfl rfl rfl rfl rfl ?_
          | refine A.eqi rfl rfl ?_ | refine A.nei rfl rfl ?_ | refine A.lss rfl rfl ?_ | refine A.leq rfl rfl ?_ | refine A.gtr rfl rfl ?_ | refine A.geq rfl rfl ?_ | refine A.eqb rfl rfl rfl rfl ?_ | refine A.neb rfl rfl rfl rfl ?_ | refine A.eqs rfl rfl ?_ | refine A.nes rfl rfl ?_ | refine A.lts rfl rfl ?_ | refine A.gts rfl rfl ?_
          | refine A.not rfl ?_ | refine A.extract rfl rfl ?_ | refine A.add64 rfl rfl rfl (by omega) ?_ | refine A.sub64 rfl rfl rfl (by omega) ?_
          | refine A.vappend (m := k + 1) rfl rfl rfl rfl rfl rfl rfl rfl hpl rfl rfl (by dsimp only; omega) (by omega) rfl ?_
        refine ⟨l.length - (k + 1), by omega, [(11, .int .i64 ((k + 1 : Nat) : Int)), (10, .int .i64 l.length), (9, Tbls.enc l), (3, .vec 0 2 (k + 1) 0 (k + 1))], 0, 2, Nat.zero_le _, (by simp),
          ⟨rfl, rfl, rfl, rfl, trivial⟩, by simp [belowS, AV.low, Tbls.enc, Tbl.lowL], rfl, ?_, k + 1, rfl, by omega, ?_, rfl⟩
        · have hp2 := twinPre_low (a := 0) (n := 2) l i (k + 1) (by omega)
          rw [hnx, if_neg (by omega)] at hp2
          have hp3 : ∀ L : List Row, AV.lowL 0 2 (L.map Row.enc) = true := fun L => Row.lowL 0 2 L
          simp [-List.map_take, belowT, Tok.low, hp3]
          exact hp2
        · rw [twinTok_a l i (k + 1) (by omega) (by omega), hnx, if_neg (by omega)]
          rfl
    · rw [twinTok_b l i k (by omega)]
      repeat' first
        | refine HCode.seq ?_ | refine HCode.region rfl ?_ | refine HCode.region_draw Lay.mix rfl ?_ | refine HCode.block ?_ | refine HCode.scope ?_ | refine HCode.skip ?_ | refine HCode.label ?_ | refine HCode.exit ?_ | refine HCode.ret ?_
        | refine HCode.cond_true rfl ?_ | refine HCode.cond_false rfl ?_ | refine HCode.cond_yes rfl (by assumption) ?_ | refine HCode.cond_no rfl (by assumption) ?_ | (refine HCode.cond rfl ?_ ?_ <;> intro hc)
        | refine A.nil_seq ?_ | refine A.nil (fun _ => rfl) ?_ | refine A.dead rfl ?_ | refine A.yes rfl rfl ?_ | refine A.no rfl rfl ?_ | refine A.yes rfl (by assumption) ?_ | refine A.no rfl (by assumption) ?_ | (refine A.guard rfl ?_ ?_ <;> intro hc)
        | refine A.move rfl ?_ | refine A.assign rfl ?_ | refine A.load_b rfl rfl rfl rfl ?_ | refine A.load_r rfl rfl rfl ?_ | refine A.field_b rfl rfl rfl rfl rfl rfl ?_ | refine A.field_r rfl rfl rfl rfl rfl rfl ?_ | refine A.field rfl rfl rfl rfl rfl ?_
        | refine A.index_r rfl rfl rfl rfl rfl rfl (by assumption) rfl ?_ | refine A.len rfl rfl rfl (by first | rw [List.length_map] | rfl) ?_ | refine A.lens rfl rfl rfl rfl ?_
        | refine A.pick_true rfl rfl rfl ?_ | refine A.pick_false rfl rfl rfl ?_ | refine A.pick_true rfl (by assumption) rfl ?_ | refine A.pick_false rfl (by assumption) rfl ?_
        | refine A.box rfl rfl rfl ?_ | refine A.alloc rfl rfl rfl ?_ | refine A.store rfl rfl rfl rfl rfl ?_ | refine A.build rfl rfl rfl rfl ?_ | refine A.buildSlice rfl rfl rfl rfl rfl rfl rfl ?_
        | refine A.eqi rfl rfl ?_ | refine A.nei rfl rfl ?_ | refine A.lss rfl rfl ?_ | refine A.leq rfl rfl ?_ | refine A.gtr rfl rfl ?_ | refine A.geq rfl rfl ?_ | refine A.eqb rfl rfl rfl rfl ?_ | refine A.neb rfl rfl rfl rfl ?_ | refine A.eqs rfl rfl ?_ | refine A.nes rfl rfl ?_ | refine A.lts rfl rfl ?_ | refine A.gts rfl rfl ?_
        | refine A.not rfl ?_ | refine A.extract rfl rfl ?_ | refine A.add64 rfl rfl rfl (by omega) ?_ | refine A.sub64 rfl rfl rfl (by omega) ?_
      change HCode _ _ _ _ _ _ _
      refine HCode.turnB 0 1 rfl rfl (Turn.vadopt (z := 4) rfl rfl rfl) rfl ?_
      refine HCode.loop (fun n s σ => ∃ j : Nat, n = l[k].rows.length - j ∧ j ≤ l[k].rows.length ∧ σ = ⟨[.cells [.str l[k].name, .vec 1 4 j 0 j]], [.vec (twinPre l i k)] ++ [.vec ((l[k].rows.take j).map Row.enc)]⟩ ∧
        s = [(20, .int .i64 j), (19, .int .i64 l[k].rows.length), (18, .slice (l[k].rows.map Row.enc) .no), (11, .int .i64 k), (10, .int .i64 l.length), (9, Tbls.enc l), (3, .vec 0 2 k 0 k), (5, .ptr 0 0)])
        (s0 := [(20, .int .i64 (0 : Nat)), (19, .int .i64 l[k].rows.length), (18, .slice (l[k].rows.map Row.enc) .no), (11, .int .i64 k), (10, .int .i64 l.length), (9, Tbls.enc l), (3, .vec 0 2 k 0 k), (5, .ptr 0 0)])
        ⟨rfl, rfl, rfl, rfl, rfl, rfl, rfl, rfl, trivial⟩ ⟨0, rfl, Nat.zero_le _, rfl, rfl⟩ ?_
      rintro n s σ ⟨j, rfl, hj, rfl, rfl⟩
      have hjl : ((l[k].rows.take j).map Row.enc).length = j := by simp; omega
      by_cases h2 : j < l[k].rows.length
      · have d2 : decide ((j : Int) < (l[k].rows.length : Int)) = true := by simp [h2]
        have x2 := map_get' (f := Row.enc) h2
        have ht := twin l[k].rows[j] (hcl _ (List.getElem_mem h1) _ (List.getElem_mem h2))
        repeat' first
          | refine HCode.seq ?_ | refine HCode.region rfl ?_ | refine HCode.region_draw Lay.mix rfl ?_ | refine HCode.block ?_ | refine HCode.scope ?_ | refine HCode.skip ?_ | refine HCode.label ?_ | refine HCode.exit ?_ | refine HCode.ret ?_
          | refine HCode.cond_true rfl ?_ | refine HCode.cond_false rfl ?_ | refine HCode.cond_yes rfl (by assumption) ?_ | refine HCode.cond_no rfl (by assumption) ?_ | (refine HCode.cond rfl ?_ ?_ <;> intro hc)
          | refine A.nil_seq ?_ | refine A.nil (fun _ => rfl) ?_ | refine A.dead rfl ?_ | refine A.yes rfl rfl ?_ | refine A.no rfl rfl ?_ | refine A.yes rfl (by assumption) ?_ | refine A.no rfl (by assumption) ?_ | (refine A.guard rfl ?_ ?_ <;> intro hc)
          | refine A.move rfl ?_ | refine A.assign rfl ?_ | refine A.load_b rfl rfl rfl rfl ?_ | refine A.load_r rfl rfl rfl ?_ | refine A.field_b rfl rfl rfl rfl rfl rfl ?_ | refine A.field_r rfl rfl rfl rfl rfl rfl ?_ | refine A.field rfl rfl rfl rfl rfl ?_
          | refine A.index_r rfl rfl rfl rfl rfl rfl (by assumption) rfl ?_ | refine A.len rfl rfl rfl (by first | rw [List.length_map] | rfl) ?_ | refine A.lens rfl rfl rfl rfl ?_
          | refine A.pick_true rfl rfl rfl ?_ | refine A.pick_false rfl rfl rfl ?_ | refine A.pick_true rfl (by assumption) rfl ?_ | refine A.pick_false rfl (by assumption) rfl ?_
          | refine A.box rfl rfl rfl ?_ | refine A.alloc rfl rfl rfl ?_ | refine A.store rfl rfl rfl rfl rfl ?_ | refine A.build rfl rfl rfl rfl ?_ | refine A.buildSlice rfl rfl rfl rfl rfl rfl rfl ?_
          | refine A.eqi rfl rfl ?_ | refine A.nei rfl rfl ?_ | refine A.lss rfl rfl ?_ | refine A.leq rfl rfl ?_ | refine A.gtr rfl rfl ?_ | refine A.geq rfl rfl ?_ | refine A.eqb rfl rfl rfl rfl ?_ | refine A.neb rfl rfl rfl rfl ?_ | refine A.eqs rfl rfl ?_ | refine A.nes rfl rfl ?_ | refine A.lts rfl rfl ?_ | refine A.gts rfl rfl ?_
          | refine A.not rfl ?_ | refine A.extract rfl rfl ?_ | refine A.add64 rfl rfl rfl (by omega) ?_ | refine A.sub64 rfl rfl rfl (by omega) ?_
          | refine A.call rfl ht (WeakL.refl _) ?_ | refine A.vappend (m := j + 1) rfl rfl rfl rfl rfl rfl rfl rfl hjl rfl rfl (by dsimp only; omega) (by omega) rfl ?_
        refine ⟨l[k].rows.length - (j + 1), by omega, [(20, .int .i64 ((j + 1 : Nat) : Int)), (19, .int .i64 l[k].rows.length), (18, .slice (l[k].rows.map Row.enc) .no), (11, .int .i64 k), (10, .int .i64 l.length), (9, Tbls.enc l), (3, .vec 0 2 k 0 k), (5, .ptr 0 0)],
          ⟨rfl, rfl, rfl, rfl, rfl, rfl, rfl, rfl, trivial⟩, by simp [belowS, AV.low, Row.lowL, Tbls.enc, Tbl.lowL], ?_, j + 1, rfl, by omega, ?_, rfl⟩
        · have hp2 := twinPre_low (a := 1) (n := 1 + 1) l i k (by omega)
          have hp4 := Row.lowL 1 (1 + 1) (l[k].rows.take j)
          simp [-List.map_take, belowB, belowT, Ob.low, Tok.low, AV.lowL, AV.low, lowL_append, hp2, hp4, Mem.lowL, Row.lowL]
        · rw [← take_enc h2]; rfl
      · have d2 : decide ((j : Int) < (l[k].rows.length : Int)) = false := by simp; omega
        have hjn : j = l[k].rows.length := by omega
        subst hjn
        have hfl := hjl
        have hcan : (((l[k].rows.take l[k].rows.length).map Row.enc).take l[k].rows.length).drop 0 = l[k].rows.map Row.enc := by rw [List.take_length, List.drop_zero, List.take_of_length_le (by simp)]
        repeat' first
          | fail
          | refine HCode.seq ?_ | refine HCode.region rfl ?_ | refine HCode.region_draw Lay.mix rfl ?_ | refine HCode.block ?_ | refine HCode.scope ?_ | refine HCode.skip ?_ | refine HCode.label ?_ | refine HCode.exit ?_ | refine HCode.ret ?_
          | refine HCode.cond_true rfl ?_ | refine HCode.cond_false rfl ?_ | refine HCode.cond_yes rfl (by assumption) ?_ | refine HCode.cond_no rfl (by assumption) ?_ | (refine HCode.cond rfl ?_ ?_ <;> intro hc)
          | refine A.nil_seq ?_ | refine A.nil (fun _ => rfl) ?_ | refine A.dead rfl ?_ | refine A.yes rfl rfl ?_ | refine A.no rfl rfl ?_ | refine A.yes rfl (by assumption) ?_ | refine A.no rfl (by assumption) ?_ | (refine A.guard rfl ?_ ?_ <;> intro hc)
          | refine A.move rfl ?_ | refine A.assign rfl ?_ | refine A.load_b rfl rfl rfl rfl ?_ | refine A.load_r rfl rfl rfl ?_ | refine A.field_b rfl rfl rfl rfl rfl rfl ?_ | refine A.field_r rfl rfl rfl rfl rfl rfl ?_ | refine A.field rfl rfl rfl rfl rfl ?_
          | refine A.index_r rfl rfl rfl rfl rfl rfl (by assumption) rfl ?_ | refine A.len rfl rfl rfl (by first | rw [List.length_map] | rfl) ?_ | refine A.lens rfl rfl rfl rfl ?_
          | refine A.pick_true rfl rfl rfl ?_ | refine A.pick_false rfl rfl rfl ?_ | refine A.pick_true rfl (by assumption) rfl ?_ | refine A.pick_false rfl (by assumption) rfl ?_
          | refine A.box rfl rfl rfl ?_ | refine A.alloc rfl rfl rfl ?_ | refine A.store rfl rfl rfl rfl rfl ?_ | refine A.build rfl rfl rfl rfl ?_ | refine A.buildSlice rfl rfl rfl rfl rfl rfl rfl ?_
          | refine A.eqi rfl rfl ?_ | refine A.nei rfl rfl ?_ | refine A.lss rfl rfl ?_ | refine A.leq rfl rfl ?_ | refine A.gtr rfl rfl ?_ | refine A.geq rfl rfl ?_ | refine A.eqb rfl rfl rfl rfl ?_ | refine A.neb rfl rfl rfl rfl ?_ | refine A.eqs rfl rfl ?_ | refine A.nes rfl rfl ?_ | refine A.lts rfl rfl ?_ | refine A.gts rfl rfl ?_
          | refine A.not rfl ?_ | refine A.extract rfl rfl ?_ | refine A.add64 rfl rfl rfl (by omega) ?_ | refine A.sub64 rfl rfl rfl (by omega) ?_
          | refine A.vappend (m := k + 1) rfl rfl rfl rfl rfl rfl rfl rfl hpl rfl rfl (by dsimp only; omega) (by omega) rfl ?_
        refine ⟨l.length - (k + 1), by omega, [(11, .int .i64 ((k + 1 : Nat) : Int)), (10, .int .i64 l.length), (9, Tbls.enc l), (3, .vec 0 2 (k + 1) 0 (k + 1))], 0, 2, Nat.zero_le _, (by simp),
          ⟨rfl, rfl, rfl, rfl, trivial⟩, by simp [belowS, AV.low, Tbls.enc, Tbl.lowL], rfl, ?_, k + 1, rfl, by omega, ?_, rfl⟩
        · have hp2 := twinPre_low (a := 0) (n := 2) l i (k + 1) (by omega)
          rw [hnx, if_pos hik] at hp2
          have hp3 : ∀ L : List Row, AV.lowL 0 2 (L.map Row.enc) = true := fun L => Row.lowL 0 2 L
          simp [-List.map_take, belowT, Tok.low, hp3]
          exact hp2
        · rw [twinTok_a l i (k + 1) (by omega) (by omega), hnx, if_pos hik]
          subst hik; rw [List.take_length]; rfl
    · rw [twinTok_b l i k (by omega)]
      repeat' first
        | refine HCode.seq ?_ | refine HCode.region rfl ?_ | refine HCode.region_draw Lay.mix rfl ?_ | refine HCode.block ?_ | refine HCode.scope ?_ | refine HCode.skip ?_ | refine HCode.label ?_ | refine HCode.exit ?_ | refine HCode.ret ?_
        | refine HCode.cond_true rfl ?_ | refine HCode.cond_false rfl ?_ | refine HCode.cond_yes rfl (by assumption) ?_ | refine HCode.cond_no rfl (by assumption) ?_ | (refine HCode.cond rfl ?_ ?_ <;> intro hc)
        | refine A.nil_seq ?_ | refine A.nil (fun _ => rfl) ?_ | refine A.dead rfl ?_ | refine A.yes rfl rfl ?_ | refine A.no rfl rfl ?_ | refine A.yes rfl (by assumption) ?_ | refine A.no rfl (by assumption) ?_ | (refine A.guard rfl ?_ ?_ <;> intro hc)
        | refine A.move rfl ?_ | refine A.assign rfl ?_ | refine A.load_b rfl rfl rfl rfl ?_ | refine A.load_r rfl rfl rfl ?_ | refine A.field_b rfl rfl rfl rfl rfl rfl ?_ | refine A.field_r rfl rfl rfl rfl rfl rfl ?_ | refine A.field rfl rfl rfl rfl rfl ?_
        | refine A.index_r rfl rfl rfl rfl rfl rfl (by assumption) rfl ?_ | refine A.len rfl rfl rfl (by first | rw [List.length_map] | rfl) ?_ | refine A.lens rfl rfl rfl rfl ?_
        | refine A.pick_true rfl rfl rfl ?_ | refine A.pick_false rfl rfl rfl ?_ | refine A.pick_true rfl (by assumption) rfl ?_ | refine A.pick_false rfl (by assumption) rfl ?_
        | refine A.box rfl rfl rfl ?_ | refine A.alloc rfl rfl rfl ?_ | refine A.store rfl rfl rfl rfl rfl ?_ | refine A.build rfl rfl rfl rfl ?_ | refine A.buildSlice rfl rfl rfl rfl rfl rfl rfl ?_
        | refine A.eqi rfl rfl ?_ | refine A.nei rfl rfl ?_ | refine A.lss rfl rfl ?_ | refine A.leq rfl rfl ?_ | refine A.gtr rfl rfl ?_ | refine A.geq rfl rfl ?_ | refine A.eqb rfl rfl rfl rfl ?_ | refine A.neb rfl rfl rfl rfl ?_ | refine A.eqs rfl rfl ?_ | refine A.nes rfl rfl ?_ | refine A.lts rfl rfl ?_ | refine A.gts rfl rfl ?_
        | refine A.not rfl ?_ | refine A.extract rfl rfl ?_ | refine A.add64 rfl rfl rfl (by omega) ?_ | refine A.sub64 rfl rfl rfl (by omega) ?_
      change HCode _ _ _ _ _ _ _
      refine HCode.turnB 0 1 rfl rfl (Turn.vadopt (z := 4) rfl rfl rfl) rfl ?_
      refine HCode.loop (fun n s σ => ∃ j : Nat, n = l[k].rows.length - j ∧ j ≤ l[k].rows.length ∧ σ = ⟨[.cells [.str l[k].name, .vec 1 4 j 0 j]], [.vec (twinPre l i k)] ++ [.vec ((l[k].rows.take j).map Row.enc)]⟩ ∧
        s = [(20, .int .i64 j), (19, .int .i64 l[k].rows.length), (18, .slice (l[k].rows.map Row.enc) .no), (11, .int .i64 k), (10, .int .i64 l.length), (9, Tbls.enc l), (3, .vec 0 2 k 0 k), (5, .ptr 0 0)])
        (s0 := [(20, .int .i64 (0 : Nat)), (19, .int .i64 l[k].rows.length), (18, .slice (l[k].rows.map Row.enc) .no), (11, .int .i64 k), (10, .int .i64 l.length), (9, Tbls.enc l), (3, .vec 0 2 k 0 k), (5, .ptr 0 0)])
        ⟨rfl, rfl, rfl, rfl, rfl, rfl, rfl, rfl, trivial⟩ ⟨0, rfl, Nat.zero_le _, rfl, rfl⟩ ?_
      rintro n s σ ⟨j, rfl, hj, rfl, rfl⟩
      have hjl : ((l[k].rows.take j).map Row.enc).length = j := by simp; omega
      by_cases h2 : j < l[k].rows.length
      · have d2 : decide ((j : Int) < (l[k].rows.length : Int)) = true := by simp [h2]
        have x2 := map_get' (f := Row.enc) h2
        have ht := twin l[k].rows[j] (hcl _ (List.getElem_mem h1) _ (List.getElem_mem h2))
        repeat' first
          | refine HCode.seq ?_ | refine HCode.region rfl ?_ | refine HCode.region_draw Lay.mix rfl ?_ | refine HCode.block ?_ | refine HCode.scope ?_ | refine HCode.skip ?_ | refine HCode.label ?_ | refine HCode.exit ?_ | refine HCode.ret ?_
          | refine HCode.cond_true rfl ?_ | refine HCode.cond_false rfl ?_ | refine HCode.cond_yes rfl (by assumption) ?_ | refine HCode.cond_no rfl (by assumption) ?_ | (refine HCode.cond rfl ?_ ?_ <;> intro hc)
          | refine A.nil_seq ?_ | refine A.nil (fun _ => rfl) ?_ | refine A.dead rfl ?_ | refine A.yes rfl rfl ?_ | refine A.no rfl rfl ?_ | refine A.yes rfl (by assumption) ?_ | refine A.no rfl (by assumption) ?_ | (refine A.guard rfl ?_ ?_ <;> intro hc)
          | refine A.move rfl ?_ | refine A.assign rfl ?_ | refine A.load_b rfl rfl rfl rfl ?_ | refine A.load_r rfl rfl rfl ?_ | refine A.field_b rfl rfl rfl rfl rfl rfl ?_ | refine A.field_r rfl rfl rfl rfl rfl rfl ?_ | refine A.field rfl rfl rfl rfl rfl ?_
          | refine A.index_r rfl rfl rfl rfl rfl rfl (by assumption) rfl ?_ | refine A.len rfl rfl rfl (by first | rw [List.length_map] | rfl) ?_ | refine A.lens rfl rfl rfl rfl ?_
          | refine A.pick_true rfl rfl rfl ?_ | refine A.pick_false rfl rfl rfl ?_ | refine A.pick_true rfl (by assumption) rfl ?_ | refine A.pick_false rfl (by assumption) rfl ?_
          | refine A.box rfl rfl rfl ?_ | refine A.alloc rfl rfl rfl ?_ | refine A.store rfl rfl rfl rfl rfl ?_ | refine A.build rfl rfl rfl rfl ?_ | refine A.buildSlice rfl rfl rfl rfl rfl rfl rfl ?_
          | refine A.eqi rfl rfl ?_ | refine A.nei rfl rfl ?_ | refine A.lss rfl rfl ?_ | refine A.leq rfl rfl ?_ | refine A.gtr rfl rfl ?_ | refine A.geq rfl rfl ?_ | refine A.eqb rfl rfl rfl rfl ?_ | refine A.neb rfl rfl rfl rfl ?_ | refine A.eqs rfl rfl ?_ | refine A.nes rfl rfl ?_ | refine A.lts rfl rfl ?_ | refine A.gts rfl rfl ?_
          | refine A.not rfl ?_ | refine A.extract rfl rfl ?_ | refine A.add64 rfl rfl rfl (by omega) ?_ | refine A.sub64 rfl rfl rfl (by omega) ?_
          | refine A.call rfl ht (WeakL.refl _) ?_ | refine A.vappend (m := j + 1) rfl rfl rfl rfl rfl rfl rfl rfl hjl rfl rfl (by dsimp only; omega) (by omega) rfl ?_
        refine ⟨l[k].rows.length - (j + 1), by omega, [(20, .int .i64 ((j + 1 : Nat) : Int)), (19, .int .i64 l[k].rows.length), (18, .slice (l[k].rows.map Row.enc) .no), (11, .int .i64 k), (10, .int .i64 l.length), (9, Tbls.enc l), (3, .vec 0 2 k 0 k), (5, .ptr 0 0)],
          ⟨rfl, rfl, rfl, rfl, rfl, rfl, rfl, rfl, trivial⟩, by simp [belowS, AV.low, Row.lowL, Tbls.enc, Tbl.lowL], ?_, j + 1, rfl, by omega, ?_, rfl⟩
        · have hp2 := twinPre_low (a := 1) (n := 1 + 1) l i k (by omega)
          have hp4 := Row.lowL 1 (1 + 1) (l[k].rows.take j)
          simp [-List.map_take, belowB, belowT, Ob.low, Tok.low, AV.lowL, AV.low, lowL_append, hp2, hp4, Mem.lowL, Row.lowL]
        · rw [← take_enc h2]; rfl
      · have d2 : decide ((j : Int) < (l[k].rows.length : Int)) = false := by simp; omega
        have hjn : j = l[k].rows.length := by omega
        subst hjn
        have hfl := hjl
        have hcan : (((l[k].rows.take l[k].rows.length).map Row.enc).take l[k].rows.length).drop 0 = l[k].rows.map Row.enc := by rw [List.take_length, List.drop_zero, List.take_of_length_le (by simp)]
        repeat' first
          | refine HCode.turnB 0 1 rfl rfl ((Turn.freeze rfl hfl rfl).trans (Turn.weak (Weak.no (WeakL.eq hcan)))) rfl ?_
          | refine HCode.seq ?_ | refine HCode.region rfl ?_ | refine HCode.region_draw Lay.mix rfl ?_ | refine HCode.block ?_ | refine HCode.scope ?_ | refine HCode.skip ?_ | refine HCode.label ?_ | refine HCode.exit ?_ | refine HCode.ret ?_
          | refine HCode.cond_true rfl ?_ | refine HCode.cond_false rfl ?_ | refine HCode.cond_yes rfl (by assumption) ?_ | refine HCode.cond_no rfl (by assumption) ?_ | (refine HCode.cond rfl ?_ ?_ <;> intro hc)
          | refine A.nil_seq ?_ | refine A.nil (fun _ => rfl) ?_ | refine A.dead rfl ?_ | refine A.yes rfl rfl ?_ | refine A.no rfl rfl ?_ | refine A.yes rfl (by assumption) ?_ | refine A.no rfl (by assumption) ?_ | (refine A.guard rfl ?_ ?_ <;> intro hc)
          | refine A.move rfl ?_ | refine A.assign rfl ?_ | refine A.load_b rfl rfl rfl rfl ?_ | refine A.load_r rfl rfl rfl ?_ | refine A.field_b rfl rfl rfl rfl rfl rfl ?_ | refine A.field_r rfl rfl rfl rfl rfl rfl ?_ | refine A.field rfl rfl rfl rfl rfl ?_
          | refine A.index_r rfl rfl rfl rfl rfl rfl (by assumption) rfl ?_ | refine A.len rfl rfl rfl (by first | rw [List.length_map] | rfl) ?_ | refine A.lens rfl rfl rfl rfl ?_
          | refine A.pick_true rfl rfl rfl ?_ | refine A.pick_false rfl rfl rfl ?_ | refine A.pick_true rfl (by assumption) rfl ?_ | refine A.pick_false rfl (by assumption) rfl ?_
          | refine A.box rfl rfl rfl ?_ | refine A.alloc rfl rfl rfl ?_ | refine A.store rfl rfl rfl rfl rfl ?_ | refine A.build rfl rfl rfl rfl ?_ | refine A.buildSlice rfl rfl rfl rfl rfl rfl rfl ?_
          | refine A.eqi rfl rfl ?_ | refine A.nei rfl rfl ?_ | refine A.lss rfl rfl ?_ | refine A.leq rfl rfl ?_ | refine A.gtr rfl rfl ?_ | refine A.geq rfl rfl ?_ | refine A.eqb rfl rfl rfl rfl ?_ | refine A.neb rfl rfl rfl rfl ?_ | refine A.eqs rfl rfl ?_ | refine A.nes rfl rfl ?_ | refine A.lts rfl rfl ?_ | refine A.gts rfl rfl ?_
          | refine A.not rfl ?_ | refine A.extract rfl rfl ?_ | refine A.add64 rfl rfl rfl (by omega) ?_ | refine A.sub64 rfl rfl rfl (by omega) ?_
          | refine A.vappend (m := k + 1) rfl rfl rfl rfl rfl rfl rfl rfl hpl rfl rfl (by dsimp only; omega) (by omega) rfl ?_
        refine ⟨l.length - (k + 1), by omega, [(11, .int .i64 ((k + 1 : Nat) : Int)), (10, .int .i64 l.length), (9, Tbls.enc l), (3, .vec 0 2 (k + 1) 0 (k + 1))], 0, 1, Nat.zero_le _, (by simp),
          ⟨rfl, rfl, rfl, rfl, trivial⟩, by simp [belowS, AV.low, Tbls.enc, Tbl.lowL], rfl, ?_, k + 1, rfl, by omega, ?_, rfl⟩
        · have hp2 := twinPre_low (a := 0) (n := 1) l i (k + 1) (by omega)
          rw [hnx, if_neg (by omega)] at hp2
          have hp3 : ∀ L : List Row, AV.lowL 0 1 (L.map Row.enc) = true := fun L => Row.lowL 0 1 L
          simp [-List.map_take, belowT, Tok.low, hp3]
          exact hp2
        · rw [twinTok_b l i (k + 1) (by omega), hnx, if_neg (by omega)]
          rfl
  · have d1 : decide ((k : Int) < (l.length : Int)) = false := by simp; omega
    have hka : k = l.length := by omega
    subst hka
    repeat' first
      | refine HCode.seq ?_ | refine HCode.region rfl ?_ | refine HCode.region_draw Lay.mix rfl ?_ | refine HCode.block ?_ | refine HCode.scope ?_ | refine HCode.skip ?_ | refine HCode.label ?_ | refine HCode.exit ?_ | refine HCode.ret ?_
      | refine HCode.cond_true rfl ?_ | refine HCode.cond_false rfl ?_ | refine HCode.cond_yes rfl (by assumption) ?_ | refine HCode.cond_no rfl (by assumption) ?_ | (refine HCode.cond rfl ?_ ?_ <;> intro hc)
      | refine A.nil_seq ?_ | refine A.nil (fun _ => rfl) ?_ | refine A.dead rfl ?_ | refine A.yes rfl rfl ?_ | refine A.no rfl rfl ?_ | refine A.yes rfl (by assumption) ?_ | refine A.no rfl (by assumption) ?_ | (refine A.guard rfl ?_ ?_ <;> intro hc)
      | refine A.move rfl ?_ | refine A.assign rfl ?_ | refine A.load_b rfl rfl rfl rfl ?_ | refine A.load_r rfl rfl rfl ?_ | refine A.field_b rfl rfl rfl rfl rfl rfl ?_ | refine A.field_r rfl rfl rfl rfl rfl rfl ?_ | refine A.field rfl rfl rfl rfl rfl ?_
      | refine A.index_r rfl rfl rfl rfl rfl rfl (by assumption) rfl ?_ | refine A.len rfl rfl rfl (by first | rw [List.length_map] | rfl) ?_ | refine A.lens rfl rfl rfl rfl ?_
      | refine A.pick_true rfl rfl rfl ?_ | refine A.pick_false rfl rfl rfl ?_ | refine A.pick_true rfl (by assumption) rfl ?_ | refine A.pick_false rfl (by assumption) rfl ?_
      | refine A.box rfl rfl rfl ?_ | refine A.alloc rfl rfl rfl ?_ | refine A.store rfl rfl rfl rfl rfl ?_ | refine A.build rfl rfl rfl rfl ?_ | refine A.buildSlice rfl rfl rfl rfl rfl rfl rfl ?_
      | refine A.eqi rfl rfl ?_ | refine A.nei rfl rfl ?_ | refine A.lss rfl rfl ?_ | refine A.leq rfl rfl ?_ | refine A.gtr rfl rfl ?_ | refine A.geq rfl rfl ?_ | refine A.eqb rfl rfl rfl rfl ?_ | refine A.neb rfl rfl rfl rfl ?_ | refine A.eqs rfl rfl ?_ | refine A.nes rfl rfl ?_ | refine A.lts rfl rfl ?_ | refine A.gts rfl rfl ?_
      | refine A.not rfl ?_ | refine A.extract rfl rfl ?_ | refine A.add64 rfl rfl rfl (by omega) ?_ | refine A.sub64 rfl rfl rfl (by omega) ?_
    exact ⟨rfl, rfl⟩

theorem twinTok_none (l : List Tbl) : twinTok l l.length l.length = [.vec (l.map Tbl.enc)] := by
  rw [twinTok_b l _ _ (by omega)]; unfold twinPre; simp
theorem twinTok_some (l : List Tbl) (i : Nat) (h : i < l.length) : twinTok l i l.length = [.vec ((l.map Tbl.enc).set i (openT l[i])), .vec (l[i].rows.map Row.enc)] := by
  rw [twinTok_a l _ _ h h]; unfold twinPre; rw [List.getElem?_eq_getElem h]; simp
theorem twinT (l : List Tbl) (hl : l.length ≤ 1048576) (hr : ∀ t ∈ l, t.rows.length ≤ 1048576) (hcl : ∀ t ∈ l, ∀ r ∈ t.rows, r.cols.length ≤ 1048576) : PFn Tryd.prog 57 [Tbls.enc l] (Tbls.enc l) := by
  refine AFn.plainT (Tbls.closed l) (by simp [AV.closedL, Tbls.closed]) (AFn.mono (twinA l l.length hl hr hcl) ?_)
  rintro e σ ⟨rfl, rfl⟩
  rw [twinTok_none]
  refine ⟨_, _, rfl, (Turn.freeze rfl (by simp) rfl).trans (Turn.weak (Weak.no (WeakL.eq ?_)))⟩
  rw [List.drop_zero, List.take_of_length_le (by simp)]
end Go.Proofs.YtajddgpkflbnaaaDoor
