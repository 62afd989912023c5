/-
  The package table: Put, Cut; the library's Delete.
-/
import Derived.Test.YtajddgpkflbnaaaDoorMTwin
namespace Go.Proofs.YtajddgpkflbnaaaDoor
open Go Go.Av
set_option maxRecDepth 100000
set_option maxHeartbeats 4000000
set_option linter.unusedVariables false
set_option linter.unusedSimpArgs false
attribute [local irreducible] HCode AOps PFn AFn Av.Step TStep

def fidx {α : Type} (p : α → Bool) : List α → Option Nat
  | [] => none
  | x :: l => if p x then some 0 else (fidx p l).map (· + 1)
theorem fidx_spec {α : Type} (p : α → Bool) : ∀ (l : List α) (k : Nat), (idxFrom p l k = -1 ∧ fidx p l = none) ∨ ∃ (j : Nat) (h : j < l.length), idxFrom p l k = ((k + j : Nat) : Int) ∧ fidx p l = some j ∧ p l[j] = true
  | [], k => .inl ⟨rfl, rfl⟩
  | x :: l, k => by
    by_cases e : p x = true
    · exact .inr ⟨0, by simp, by simp [idxFrom, e], by simp [fidx, e], by simpa using e⟩
    · rcases fidx_spec p l (k + 1) with ⟨h1, h2⟩ | ⟨j, h, h1, h2, h3⟩
      · exact .inl ⟨by simp [idxFrom, e, h1], by simp [fidx, e, h2]⟩
      · exact .inr ⟨j + 1, by simpa using h, by simp [idxFrom, e, h1]; omega, by simp [fidx, e, h2], by simpa using h3⟩
theorem place_spec (name key : Str) : ∀ (l : List Tbl) (k : Nat), (placeFrom name key l k = (-1, -1) ∧ fidx (fun t : Tbl => t.name == name) l = none) ∨
    ∃ (j : Nat) (h : j < l.length), placeFrom name key l k = (((k + j : Nat) : Int), idxFrom (fun r : Row => r.key == key) l[j].rows 0) ∧ fidx (fun t : Tbl => t.name == name) l = some j
  | [], k => .inl ⟨rfl, rfl⟩
  | x :: l, k => by
    by_cases e : (x.name == name) = true
    · exact .inr ⟨0, by simp, by simp only [placeFrom, if_pos e]; simp, by simp [fidx, e]⟩
    · rcases place_spec name key l (k + 1) with ⟨h1, h2⟩ | ⟨j, h, h1, h2⟩
      · exact .inl ⟨by simp only [placeFrom, if_neg e, h1], by simp [fidx, e, h2]⟩
      · refine .inr ⟨j + 1, by simpa using h, ?_, by simp [fidx, e, h2]⟩
        simp only [placeFrom, if_neg e, h1]
        simp
        omega

def modAt {α : Type} (l : List α) (i : Nat) (f : α → α) : List α :=
  match l[i]? with
  | some x => l.set i (f x)
  | none => l
theorem modAt_eq {α : Type} {l : List α} {i : Nat} (h : i < l.length) (f : α → α) : modAt l i f = l.set i (f l[i]) := by
  unfold modAt; rw [List.getElem?_eq_getElem h]
def putRows (rows : List Row) (r : Row) : List Row :=
  match fidx (fun x : Row => x.key == r.key) rows with
  | none => rows ++ [r]
  | some k => rows.set k r
def cutRows (rows : List Row) (key : Str) : List Row :=
  match fidx (fun x : Row => x.key == key) rows with
  | none => rows
  | some k => rows.take k ++ rows.drop (k + 1)
def putG (l : List Tbl) (name : Str) (r : Row) : List Tbl :=
  match fidx (fun t : Tbl => t.name == name) l with
  | none => l ++ [⟨name, [r]⟩]
  | some i => modAt l i fun t => ⟨t.name, putRows t.rows r⟩
def cutG (l : List Tbl) (name key : Str) : List Tbl :=
  match fidx (fun t : Tbl => t.name == name) l with
  | none => l
  | some i => modAt l i fun t => ⟨t.name, cutRows t.rows key⟩

theorem Weak.row1 {name : Str} {xs : List AV} {t : Tk} : WeakL [.agg [.str name, .slice xs t]] [.agg [.str name, .slice xs .no]] := WeakL.cons (Weak.agg (WeakL.cons (Weak.refl _) (WeakL.cons (Weak.no (WeakL.refl _)) (WeakL.refl _)))) (WeakL.refl _)

theorem put (l : List Tbl) (name : Str) (r : Row) (hl : l.length ≤ 1048576) (hr : ∀ t ∈ l, t.rows.length ≤ 1048576) (hcl : ∀ t ∈ l, ∀ r ∈ t.rows, r.cols.length ≤ 1048576) (hrc : r.cols.length ≤ 1048576) :
    PFn Tryd.prog 23 [Tbls.enc l, .str name, r.enc] (Tbls.enc (putG l name r)) := by
  refine AFn.plainT (Tbls.closed _) (by simp [AV.closedL, Tbls.closed, AV.closed, Row.closed]) (AFn.enter [6] Tryd.func23 rfl rfl rfl rfl rfl (by decide) ?_)
  have hp := place l name r.key (by omega) (fun t ht => by have := hr t ht; omega)
  have htw := twin r hrc
  have hclo : AV.closedL [Tbls.enc l] = true := by simp [AV.closedL, Tbls.closed]
  rcases place_spec name r.key l 0 with ⟨h1, h2⟩ | ⟨i, hi, h1, h2⟩
  · rw [h1] at hp
    have hn := twinA l l.length hl hr hcl
    rw [twinTok_none] at hn
    have hml : (l.map Tbl.enc).length = l.length := by simp
    have hlow : belowT 0 1 [.vec (l.map Tbl.enc)] = true := by simp [belowT, Tok.low, Tbl.lowL]
    repeat' first
      | refine A.box_r rfl rfl ?_
      | refine HCode.seq ?_ | refine HCode.region rfl ?_ | refine HCode.region_draw Lay.mix rfl ?_ | refine HCode.block ?_ | refine HCode.scope ?_ | refine HCode.skip ?_ | refine HCode.label ?_ | refine HCode.exit ?_ | refine HCode.ret ?_
      | refine HCode.cond_true rfl ?_ | refine HCode.cond_false rfl ?_ | refine HCode.cond_yes rfl (by assumption) ?_ | refine HCode.cond_no rfl (by assumption) ?_ | (refine HCode.cond rfl ?_ ?_ <;> intro hc)
      | refine A.nil_seq ?_ | refine A.nil (fun _ => rfl) ?_ | refine A.dead rfl ?_ | refine A.yes rfl rfl ?_ | refine A.no rfl rfl ?_ | refine A.yes rfl (by assumption) ?_ | refine A.no rfl (by assumption) ?_ | (refine A.guard rfl ?_ ?_ <;> intro hc)
      | refine A.move rfl ?_ | refine A.assign rfl ?_ | refine A.load_b rfl rfl rfl rfl ?_ | refine A.load_r rfl rfl rfl ?_ | refine A.field_b rfl rfl rfl rfl rfl rfl ?_ | refine A.field_r rfl rfl rfl rfl rfl rfl ?_ | refine A.field rfl rfl rfl rfl rfl ?_
      | refine A.index_r rfl rfl rfl rfl rfl rfl (by assumption) rfl ?_ | refine A.len rfl rfl rfl (by first | rw [List.length_map] | rfl) ?_ | refine A.lens rfl rfl rfl rfl ?_
      | refine A.pick_true rfl rfl rfl ?_ | refine A.pick_false rfl rfl rfl ?_ | refine A.pick_true rfl (by assumption) rfl ?_ | refine A.pick_false rfl (by assumption) rfl ?_
      | refine A.box rfl rfl rfl ?_ | refine A.alloc rfl rfl rfl ?_ | refine A.store rfl rfl rfl rfl rfl ?_ | refine A.build rfl rfl rfl rfl ?_ | refine A.buildSlice rfl rfl rfl rfl rfl rfl rfl ?_
      | refine A.eqi rfl rfl ?_ | refine A.nei rfl rfl ?_ | refine A.lss rfl rfl ?_ | refine A.leq rfl rfl ?_ | refine A.gtr rfl rfl ?_ | refine A.geq rfl rfl ?_ | refine A.eqb rfl rfl rfl rfl ?_ | refine A.neb rfl rfl rfl rfl ?_ | refine A.eqs rfl rfl ?_ | refine A.nes rfl rfl ?_ | refine A.lts rfl rfl ?_ | refine A.gts rfl rfl ?_
      | refine A.not rfl ?_ | refine A.extract rfl rfl ?_ | refine A.add64 rfl rfl rfl (by omega) ?_ | refine A.sub64 rfl rfl rfl (by omega) ?_
      | refine A.callN rfl rfl hn hclo (WeakL.refl _) rfl hlow ?_ | refine A.call rfl hp (WeakL.refl _) ?_ | refine A.call rfl htw (WeakL.refl _) ?_ | refine A.vappend (m := l.length + 1) rfl rfl rfl rfl rfl rfl rfl rfl hml rfl rfl (by dsimp only; omega) (by omega) rfl ?_
    refine ⟨_, _, rfl, (Turn.freeze rfl (by simp) rfl).trans (Turn.weak (Weak.no ?_))⟩
    have e : putG l name r = l ++ [⟨name, [r]⟩] := by unfold putG; rw [h2]
    rw [e, List.drop_zero, List.take_of_length_le (by simp), List.map_append]
    exact WeakL.app (WeakL.refl _) Weak.row1
  · rw [h1] at hp
    simp only [Nat.zero_add] at hp
    have hn := twinA l i hl hr hcl
    rw [twinTok_some l i hi] at hn
    have hml : ((l.map Tbl.enc).set i (openT l[i])).length = l.length := by simp
    have hlow : belowT 0 2 [.vec ((l.map Tbl.enc).set i (openT l[i])), .vec (l[i].rows.map Row.enc)] = true := by
      have h3 := twinPre_low (a := 0) (n := 2) l i l.length (by omega)
      have h4 : twinPre l i l.length = (l.map Tbl.enc).set i (openT l[i]) := by unfold twinPre; rw [List.getElem?_eq_getElem hi]; simp
      rw [h4] at h3
      simp [belowT, Tok.low, Row.lowL, h3]
    have hx : ((l.map Tbl.enc).set i (openT l[i]))[i]? = some (openT l[i]) := by simp [hi]
    have hlt0 : i < l.length - 0 := hi
    have hrl : (l[i].rows.map Row.enc).length = l[i].rows.length := by simp
    have hri := hr _ (List.getElem_mem hi)
    have d0 : decide ((i : Int) < 0) = false := by simp
    have e : putG l name r = l.set i ⟨l[i].name, putRows l[i].rows r⟩ := by unfold putG; rw [h2]; exact modAt_eq hi _
    rcases fidx_spec (fun x : Row => x.key == r.key) l[i].rows 0 with ⟨h3, h4⟩ | ⟨k, hk, h3, h4, h5⟩
    · rw [h3] at hp
      repeat' first
        | refine A.box_r rfl rfl ?_
        | refine HCode.seq ?_ | refine HCode.region rfl ?_ | refine HCode.region_draw Lay.mix rfl ?_ | refine HCode.block ?_ | refine HCode.scope ?_ | refine HCode.skip ?_ | refine HCode.label ?_ | refine HCode.exit ?_ | refine HCode.ret ?_
        | refine HCode.cond_true rfl ?_ | refine HCode.cond_false rfl ?_ | refine HCode.cond_yes rfl (by assumption) ?_ | refine HCode.cond_no rfl (by assumption) ?_ | (refine HCode.cond rfl ?_ ?_ <;> intro hc)
        | refine A.nil_seq ?_ | refine A.nil (fun _ => rfl) ?_ | refine A.dead rfl ?_ | refine A.yes rfl rfl ?_ | refine A.no rfl rfl ?_ | refine A.yes rfl (by assumption) ?_ | refine A.no rfl (by assumption) ?_ | (refine A.guard rfl ?_ ?_ <;> intro hc)
        | refine A.move rfl ?_ | refine A.assign rfl ?_ | refine A.load_b rfl rfl rfl rfl ?_ | refine A.load_r rfl rfl rfl ?_ | refine A.field_b rfl rfl rfl rfl rfl rfl ?_ | refine A.field_r rfl rfl rfl rfl rfl rfl ?_ | refine A.field rfl rfl rfl rfl rfl ?_
        | refine A.index_r rfl rfl rfl rfl rfl rfl (by assumption) rfl ?_ | refine A.len rfl rfl rfl (by first | rw [List.length_map] | rfl) ?_ | refine A.lens rfl rfl rfl rfl ?_
        | refine A.pick_true rfl rfl rfl ?_ | refine A.pick_false rfl rfl rfl ?_ | refine A.pick_true rfl (by assumption) rfl ?_ | refine A.pick_false rfl (by assumption) rfl ?_
        | refine A.box rfl rfl rfl ?_ | refine A.alloc rfl rfl rfl ?_ | refine A.store rfl rfl rfl rfl rfl ?_ | refine A.build rfl rfl rfl rfl ?_ | refine A.buildSlice rfl rfl rfl rfl rfl rfl rfl ?_
        | refine A.eqi rfl rfl ?_ | refine A.nei rfl rfl ?_ | refine A.lss rfl rfl ?_ | refine A.leq rfl rfl ?_ | refine A.gtr rfl rfl ?_ | refine A.geq rfl rfl ?_ | refine A.eqb rfl rfl rfl rfl ?_ | refine A.neb rfl rfl rfl rfl ?_ | refine A.eqs rfl rfl ?_ | refine A.nes rfl rfl ?_ | refine A.lts rfl rfl ?_ | refine A.gts rfl rfl ?_
        | refine A.not rfl ?_ | refine A.extract rfl rfl ?_ | refine A.add64 rfl rfl rfl (by omega) ?_ | refine A.sub64 rfl rfl rfl (by omega) ?_
        | refine A.callN rfl rfl hn hclo (WeakL.refl _) rfl hlow ?_ | refine A.call rfl hp (WeakL.refl _) ?_ | refine A.call rfl htw (WeakL.refl _) ?_ | refine A.vindex rfl rfl rfl rfl rfl rfl rfl (by assumption) (Nat.zero_add _) ?_ | refine A.vfield rfl rfl rfl rfl rfl rfl ?_ | refine A.vload rfl rfl rfl (by assumption) (by assumption) rfl ?_ | refine A.vlen rfl rfl rfl rfl ?_ | refine A.vappend (m := l[i].rows.length + 1) rfl rfl rfl rfl rfl rfl rfl rfl hrl rfl rfl (by dsimp only; omega) (by omega) rfl ?_ | refine A.vstore (agg := true) rfl rfl rfl rfl rfl hml hx rfl rfl rfl rfl ?_
      have hpr : putRows l[i].rows r = l[i].rows ++ [r] := by unfold putRows; rw [h4]
      refine ⟨_, _, rfl, (Turn.inner (k := 0) (i := i) (c := 1) rfl (by simp [hi]; rfl) rfl (Turn.freeze rfl (by simp) rfl) rfl rfl).trans ((Turn.freeze rfl (by simp) rfl).trans (Turn.weak (Weak.no (WeakL.eq ?_))))⟩
      rw [e, hpr, List.drop_zero, List.take_of_length_le (by simp), List.set_set, List.set_set, List.map_set]
      congr 1
      simp only [Tbl.enc, List.set_cons_succ, List.set_cons_zero, List.drop_zero, List.map_append, List.map_cons, List.map_nil]
      rw [List.take_of_length_le (by simp)]
      rfl
    · rw [h3] at hp
      simp only [Nat.zero_add] at hp
      have hlt1 : k < l[i].rows.length - 0 := hk
      have x2 := map_get' (f := Row.enc) hk
      have d1 : decide ((k : Int) < 0) = false := by simp
      have hpr : putRows l[i].rows r = l[i].rows.set k r := by unfold putRows; rw [h4]
      repeat' first
        | refine A.box_r rfl rfl ?_
        | refine HCode.seq ?_ | refine HCode.region rfl ?_ | refine HCode.region_draw Lay.mix rfl ?_ | refine HCode.block ?_ | refine HCode.scope ?_ | refine HCode.skip ?_ | refine HCode.label ?_ | refine HCode.exit ?_ | refine HCode.ret ?_
        | refine HCode.cond_true rfl ?_ | refine HCode.cond_false rfl ?_ | refine HCode.cond_yes rfl (by assumption) ?_ | refine HCode.cond_no rfl (by assumption) ?_ | (refine HCode.cond rfl ?_ ?_ <;> intro hc)
        | refine A.nil_seq ?_ | refine A.nil (fun _ => rfl) ?_ | refine A.dead rfl ?_ | refine A.yes rfl rfl ?_ | refine A.no rfl rfl ?_ | refine A.yes rfl (by assumption) ?_ | refine A.no rfl (by assumption) ?_ | (refine A.guard rfl ?_ ?_ <;> intro hc)
        | refine A.move rfl ?_ | refine A.assign rfl ?_ | refine A.load_b rfl rfl rfl rfl ?_ | refine A.load_r rfl rfl rfl ?_ | refine A.field_b rfl rfl rfl rfl rfl rfl ?_ | refine A.field_r rfl rfl rfl rfl rfl rfl ?_ | refine A.field rfl rfl rfl rfl rfl ?_
        | refine A.index_r rfl rfl rfl rfl rfl rfl (by assumption) rfl ?_ | refine A.len rfl rfl rfl (by first | rw [List.length_map] | rfl) ?_ | refine A.lens rfl rfl rfl rfl ?_
        | refine A.pick_true rfl rfl rfl ?_ | refine A.pick_false rfl rfl rfl ?_ | refine A.pick_true rfl (by assumption) rfl ?_ | refine A.pick_false rfl (by assumption) rfl ?_
        | refine A.box rfl rfl rfl ?_ | refine A.alloc rfl rfl rfl ?_ | refine A.store rfl rfl rfl rfl rfl ?_ | refine A.build rfl rfl rfl rfl ?_ | refine A.buildSlice rfl rfl rfl rfl rfl rfl rfl ?_
        | refine A.eqi rfl rfl ?_ | refine A.nei rfl rfl ?_ | refine A.lss rfl rfl ?_ | refine A.leq rfl rfl ?_ | refine A.gtr rfl rfl ?_ | refine A.geq rfl rfl ?_ | refine A.eqb rfl rfl rfl rfl ?_ | refine A.neb rfl rfl rfl rfl ?_ | refine A.eqs rfl rfl ?_ | refine A.nes rfl rfl ?_ | refine A.lts rfl rfl ?_ | refine A.gts rfl rfl ?_
        | refine A.not rfl ?_ | refine A.extract rfl rfl ?_ | refine A.add64 rfl rfl rfl (by omega) ?_ | refine A.sub64 rfl rfl rfl (by omega) ?_
        | refine A.callN rfl rfl hn hclo (WeakL.refl _) rfl hlow ?_ | refine A.call rfl hp (WeakL.refl _) ?_ | refine A.call rfl htw (WeakL.refl _) ?_ | refine A.vindex rfl rfl rfl rfl rfl rfl rfl (by assumption) (Nat.zero_add _) ?_ | refine A.vfield rfl rfl rfl rfl rfl rfl ?_ | refine A.vload rfl rfl rfl (by assumption) (by assumption) rfl ?_ | refine A.vlen rfl rfl rfl rfl ?_ | refine A.vstore (agg := true) rfl rfl rfl rfl rfl hrl x2 rfl rfl rfl rfl ?_
      refine ⟨_, _, rfl, (Turn.inner (k := 0) (i := i) (c := 1) rfl hx rfl (Turn.freeze rfl (by simp) rfl) rfl rfl).trans ((Turn.freeze rfl (by simp) rfl).trans (Turn.weak (Weak.no (WeakL.eq ?_))))⟩
      rw [e, hpr, List.drop_zero, List.take_of_length_le (by simp), List.set_set, List.map_set]
      congr 1
      simp only [Tbl.enc, List.set_cons_succ, List.set_cons_zero, List.drop_zero, List.map_set]
      rw [List.take_of_length_le (by simp)]
      rfl

def rowZero : AV := .agg [.str [], .str [], .slice [] .nil, .bool false]
def delAV (xs : List AV) (i : Nat) : List AV := (xs.take i ++ xs.drop (i + 1) ++ xs.drop (xs.length - 1)).take (xs.length - 1) ++ [rowZero] ++ (xs.take i ++ xs.drop (i + 1) ++ xs.drop (xs.length - 1)).drop xs.length
theorem delAV_take (xs : List AV) (i : Nat) (h : i < xs.length) : (delAV xs i).take (xs.length - 1) = xs.take i ++ xs.drop (i + 1) := by
  have h1 : (xs.take i ++ xs.drop (i + 1)).length = xs.length - 1 := by simp; omega
  unfold delAV
  rw [List.append_assoc, List.take_append_of_le_length (by simp; omega), List.take_take, Nat.min_self, List.take_append_of_le_length (by omega), List.take_of_length_le (by omega)]
theorem closedL_append : ∀ (xs ys : List AV), AV.closedL (xs ++ ys) = (AV.closedL xs && AV.closedL ys)
  | [], ys => by simp [AV.closedL]
  | x :: xs, ys => by rw [List.cons_append, AV.closedL, AV.closedL, closedL_append xs ys, Bool.and_assoc]
theorem closedL_iff : ∀ (xs : List AV), AV.closedL xs = true ↔ ∀ x ∈ xs, x.closed = true
  | [] => by simp [AV.closedL]
  | x :: xs => by simp [AV.closedL, closedL_iff xs]
theorem delAV_closed (xs : List AV) (i : Nat) (h : AV.closedL xs = true) : AV.closedL (delAV xs i) = true := by
  rw [closedL_iff] at h ⊢
  intro x hx
  unfold delAV at hx
  simp only [List.mem_append, List.mem_singleton] at hx
  rcases hx with (hx | rfl) | hx
  · have := List.mem_of_mem_take hx
    simp only [List.mem_append] at this
    rcases this with (this | this) | this
    · exact h x (List.mem_of_mem_take this)
    · exact h x (List.mem_of_mem_drop this)
    · exact h x (List.mem_of_mem_drop this)
  · rfl
  · have := List.mem_of_mem_drop hx
    simp only [List.mem_append] at this
    rcases this with (this | this) | this
    · exact h x (List.mem_of_mem_take this)
    · exact h x (List.mem_of_mem_drop this)
    · exact h x (List.mem_of_mem_drop this)

theorem delete (xs : List AV) (n i : Nat) (hn : xs.length = n) (hi : i < n) (hb : n ≤ 1048576) :
    AFn Tryd.prog 60 [.vec 0 4 n 0 n, .int .i64 i, .int .i64 ((i + 1 : Nat) : Int)] ⟨[], [.vec xs]⟩ (fun e σ => e = .ret (.vec 0 4 n 0 (n - 1)) ∧ σ = ⟨[], [.vec (delAV xs i)]⟩) := by
  refine AFn.enter [6] Tryd.func60 rfl rfl rfl rfl rfl (by decide) ?_
  have d1 : ((i : Int) == ((i + 1 : Nat) : Int)) = false := by simp; omega
  have hm : i + (n - (i + 1)) = n - 1 := by omega
  repeat' first
    | refine HCode.seq ?_ | refine HCode.region rfl ?_ | refine HCode.region_draw Lay.mix rfl ?_ | refine HCode.block ?_ | refine HCode.scope ?_ | refine HCode.skip ?_ | refine HCode.label ?_ | refine HCode.exit ?_ | refine HCode.ret ?_
    | refine HCode.cond_true rfl ?_ | refine HCode.cond_false rfl ?_ | refine HCode.cond_yes rfl (by assumption) ?_ | refine HCode.cond_no rfl (by assumption) ?_ | (refine HCode.cond rfl ?_ ?_ <;> intro hc)
    | refine A.nil_seq ?_ | refine A.nil (fun _ => rfl) ?_ | refine A.dead rfl ?_ | refine A.yes rfl rfl ?_ | refine A.no rfl rfl ?_ | refine A.yes rfl (by assumption) ?_ | refine A.no rfl (by assumption) ?_ | (refine A.guard rfl ?_ ?_ <;> intro hc)
    | refine A.move rfl ?_ | refine A.assign rfl ?_ | refine A.load_b rfl rfl rfl rfl ?_ | refine A.load_r rfl rfl rfl ?_ | refine A.field_b rfl rfl rfl rfl rfl rfl ?_ | refine A.field_r rfl rfl rfl rfl rfl rfl ?_ | refine A.field rfl rfl rfl rfl rfl ?_
    | refine A.index_r rfl rfl rfl rfl rfl rfl (by assumption) rfl ?_ | refine A.len rfl rfl rfl (by first | rw [List.length_map] | rfl) ?_ | refine A.lens rfl rfl rfl rfl ?_
    | refine A.pick_true rfl rfl rfl ?_ | refine A.pick_false rfl rfl rfl ?_ | refine A.pick_true rfl (by assumption) rfl ?_ | refine A.pick_false rfl (by assumption) rfl ?_
    | refine A.box rfl rfl rfl ?_ | refine A.alloc rfl rfl rfl ?_ | refine A.store rfl rfl rfl rfl rfl ?_ | refine A.build rfl rfl rfl rfl ?_ | refine A.buildSlice rfl rfl rfl rfl rfl rfl rfl ?_
    | refine A.eqi rfl rfl ?_ | refine A.nei rfl rfl ?_ | refine A.lss rfl rfl ?_ | refine A.leq rfl rfl ?_ | refine A.gtr rfl rfl ?_ | refine A.geq rfl rfl ?_ | refine A.eqb rfl rfl rfl rfl ?_ | refine A.neb rfl rfl rfl rfl ?_ | refine A.eqs rfl rfl ?_ | refine A.nes rfl rfl ?_ | refine A.lts rfl rfl ?_ | refine A.gts rfl rfl ?_
    | refine A.not rfl ?_ | refine A.extract rfl rfl ?_ | refine A.add64 rfl rfl rfl (by omega) ?_ | refine A.sub64 rfl rfl rfl (by omega) ?_
    | refine A.slice3 i (i + 1) n rfl rfl rfl rfl rfl rfl rfl rfl rfl rfl (by omega) (by omega) (by omega) ?_ | refine A.vlen rfl rfl rfl rfl ?_
    | refine A.vslice 0 i (rl := 0) (rh := i) rfl rfl rfl rfl rfl rfl rfl rfl rfl (Nat.zero_le _) (by omega) rfl (Nat.zero_add _) ?_
    | refine A.vslice (i + 1) n (rl := i + 1) (rh := n) rfl rfl rfl rfl rfl rfl rfl rfl rfl (by omega) (by omega) (Nat.zero_add _) (Nat.zero_add _) ?_
    | refine A.vshift (i := i) (j := i + 1) (m := n - 1) rfl rfl rfl rfl rfl rfl rfl rfl hn (by omega) (by omega) hm rfl ?_
    | refine A.vslice (n - 1) n (rl := n - 1) (rh := n) rfl rfl rfl rfl rfl rfl rfl rfl rfl (by omega) (by omega) (Nat.zero_add _) (Nat.zero_add _) ?_
    | refine A.vclear rfl rfl rfl rfl rfl rfl rfl (by simp; omega) rfl ?_
  refine ⟨rfl, ?_⟩
  subst hn
  have h1 : xs.length - (xs.length - 1) = 1 := by omega
  dsimp only
  rw [h1]
  rfl

theorem cut (l : List Tbl) (name key : Str) (hl : l.length ≤ 1048576) (hr : ∀ t ∈ l, t.rows.length ≤ 1048576) (hcl : ∀ t ∈ l, ∀ r ∈ t.rows, r.cols.length ≤ 1048576) :
    PFn Tryd.prog 24 [Tbls.enc l, .str name, .str key] (Tbls.enc (cutG l name key)) := by
  refine AFn.plainT (Tbls.closed _) (by simp [AV.closedL, Tbls.closed, AV.closed]) (AFn.enter [6] Tryd.func24 rfl rfl rfl rfl rfl (by decide) ?_)
  have hp := place l name key (by omega) (fun t ht => by have := hr t ht; omega)
  have hclo : AV.closedL [Tbls.enc l] = true := by simp [AV.closedL, Tbls.closed]
  rcases place_spec name key l 0 with ⟨h1, h2⟩ | ⟨i, hi, h1, h2⟩
  · rw [h1] at hp
    have hn := twinA l l.length hl hr hcl
    rw [twinTok_none] at hn
    have hlow : belowT 0 1 [.vec (l.map Tbl.enc)] = true := by simp [belowT, Tok.low, Tbl.lowL]
    have e : cutG l name key = l := by unfold cutG; rw [h2]
    rw [e]
    repeat' first
      | refine HCode.seq ?_ | refine HCode.region rfl ?_ | refine HCode.region_draw Lay.mix rfl ?_ | refine HCode.block ?_ | refine HCode.scope ?_ | refine HCode.skip ?_ | refine HCode.label ?_ | refine HCode.exit ?_ | refine HCode.ret ?_
      | refine HCode.cond_true rfl ?_ | refine HCode.cond_false rfl ?_ | refine HCode.cond_yes rfl (by assumption) ?_ | refine HCode.cond_no rfl (by assumption) ?_ | (refine HCode.cond rfl ?_ ?_ <;> intro hc)
      | refine A.nil_seq ?_ | refine A.nil (fun _ => rfl) ?_ | refine A.dead rfl ?_ | refine A.yes rfl rfl ?_ | refine A.no rfl rfl ?_ | refine A.yes rfl (by assumption) ?_ | refine A.no rfl (by assumption) ?_ | (refine A.guard rfl ?_ ?_ <;> intro hc)
      | refine A.move rfl ?_ | refine A.assign rfl ?_ | refine A.load_b rfl rfl rfl rfl ?_ | refine A.load_r rfl rfl rfl ?_ | refine A.field_b rfl rfl rfl rfl rfl rfl ?_ | refine A.field_r rfl rfl rfl rfl rfl rfl ?_ | refine A.field rfl rfl rfl rfl rfl ?_
      | refine A.index_r rfl rfl rfl rfl rfl rfl (by assumption) rfl ?_ | refine A.len rfl rfl rfl (by first | rw [List.length_map] | rfl) ?_ | refine A.lens rfl rfl rfl rfl ?_
      | refine A.pick_true rfl rfl rfl ?_ | refine A.pick_false rfl rfl rfl ?_ | refine A.pick_true rfl (by assumption) rfl ?_ | refine A.pick_false rfl (by assumption) rfl ?_
      | refine A.box rfl rfl rfl ?_ | refine A.alloc rfl rfl rfl ?_ | refine A.store rfl rfl rfl rfl rfl ?_ | refine A.build rfl rfl rfl rfl ?_ | refine A.buildSlice rfl rfl rfl rfl rfl rfl rfl ?_
      | refine A.eqi rfl rfl ?_ | refine A.nei rfl rfl ?_ | refine A.lss rfl rfl ?_ | refine A.leq rfl rfl ?_ | refine A.gtr rfl rfl ?_ | refine A.geq rfl rfl ?_ | refine A.eqb rfl rfl rfl rfl ?_ | refine A.neb rfl rfl rfl rfl ?_ | refine A.eqs rfl rfl ?_ | refine A.nes rfl rfl ?_ | refine A.lts rfl rfl ?_ | refine A.gts rfl rfl ?_
      | refine A.not rfl ?_ | refine A.extract rfl rfl ?_ | refine A.add64 rfl rfl rfl (by omega) ?_ | refine A.sub64 rfl rfl rfl (by omega) ?_
      | refine A.callN rfl rfl hn hclo (WeakL.refl _) rfl hlow ?_ | refine A.call rfl hp (WeakL.refl _) ?_
    refine ⟨_, _, rfl, (Turn.freeze rfl (by simp) rfl).trans (Turn.weak (Weak.no (WeakL.eq ?_)))⟩
    rw [List.drop_zero, List.take_of_length_le (by simp)]
  · rw [h1] at hp
    simp only [Nat.zero_add] at hp
    have hn := twinA l i hl hr hcl
    rw [twinTok_some l i hi] at hn
    have hml : ((l.map Tbl.enc).set i (openT l[i])).length = l.length := by simp
    have hlow : belowT 0 2 [.vec ((l.map Tbl.enc).set i (openT l[i])), .vec (l[i].rows.map Row.enc)] = true := by
      have h3 := twinPre_low (a := 0) (n := 2) l i l.length (by omega)
      have h4 : twinPre l i l.length = (l.map Tbl.enc).set i (openT l[i]) := by unfold twinPre; rw [List.getElem?_eq_getElem hi]; simp
      rw [h4] at h3
      simp [belowT, Tok.low, Row.lowL, h3]
    have hx : ((l.map Tbl.enc).set i (openT l[i]))[i]? = some (openT l[i]) := by simp [hi]
    have hlt0 : i < l.length - 0 := hi
    have hrl : (l[i].rows.map Row.enc).length = l[i].rows.length := by simp
    have hri := hr _ (List.getElem_mem hi)
    have e : cutG l name key = l.set i ⟨l[i].name, cutRows l[i].rows key⟩ := by unfold cutG; rw [h2]; exact modAt_eq hi _
    rcases fidx_spec (fun x : Row => x.key == key) l[i].rows 0 with ⟨h3, h4⟩ | ⟨k, hk, h3, h4, h5⟩
    · rw [h3] at hp
      have hpr : cutRows l[i].rows key = l[i].rows := by unfold cutRows; rw [h4]
      repeat' first
        | refine HCode.seq ?_ | refine HCode.region rfl ?_ | refine HCode.region_draw Lay.mix rfl ?_ | refine HCode.block ?_ | refine HCode.scope ?_ | refine HCode.skip ?_ | refine HCode.label ?_ | refine HCode.exit ?_ | refine HCode.ret ?_
        | refine HCode.cond_true rfl ?_ | refine HCode.cond_false rfl ?_ | refine HCode.cond_yes rfl (by assumption) ?_ | refine HCode.cond_no rfl (by assumption) ?_ | (refine HCode.cond rfl ?_ ?_ <;> intro hc)
        | refine A.nil_seq ?_ | refine A.nil (fun _ => rfl) ?_ | refine A.dead rfl ?_ | refine A.yes rfl rfl ?_ | refine A.no rfl rfl ?_ | refine A.yes rfl (by assumption) ?_ | refine A.no rfl (by assumption) ?_ | (refine A.guard rfl ?_ ?_ <;> intro hc)
        | refine A.move rfl ?_ | refine A.assign rfl ?_ | refine A.load_b rfl rfl rfl rfl ?_ | refine A.load_r rfl rfl rfl ?_ | refine A.field_b rfl rfl rfl rfl rfl rfl ?_ | refine A.field_r rfl rfl rfl rfl rfl rfl ?_ | refine A.field rfl rfl rfl rfl rfl ?_
        | refine A.index_r rfl rfl rfl rfl rfl rfl (by assumption) rfl ?_ | refine A.len rfl rfl rfl (by first | rw [List.length_map] | rfl) ?_ | refine A.lens rfl rfl rfl rfl ?_
        | refine A.pick_true rfl rfl rfl ?_ | refine A.pick_false rfl rfl rfl ?_ | refine A.pick_true rfl (by assumption) rfl ?_ | refine A.pick_false rfl (by assumption) rfl ?_
        | refine A.box rfl rfl rfl ?_ | refine A.alloc rfl rfl rfl ?_ | refine A.store rfl rfl rfl rfl rfl ?_ | refine A.build rfl rfl rfl rfl ?_ | refine A.buildSlice rfl rfl rfl rfl rfl rfl rfl ?_
        | refine A.eqi rfl rfl ?_ | refine A.nei rfl rfl ?_ | refine A.lss rfl rfl ?_ | refine A.leq rfl rfl ?_ | refine A.gtr rfl rfl ?_ | refine A.geq rfl rfl ?_ | refine A.eqb rfl rfl rfl rfl ?_ | refine A.neb rfl rfl rfl rfl ?_ | refine A.eqs rfl rfl ?_ | refine A.nes rfl rfl ?_ | refine A.lts rfl rfl ?_ | refine A.gts rfl rfl ?_
        | refine A.not rfl ?_ | refine A.extract rfl rfl ?_ | refine A.add64 rfl rfl rfl (by omega) ?_ | refine A.sub64 rfl rfl rfl (by omega) ?_
        | refine A.callN rfl rfl hn hclo (WeakL.refl _) rfl hlow ?_ | refine A.call rfl hp (WeakL.refl _) ?_ | refine A.vindex rfl rfl rfl rfl rfl rfl rfl (by assumption) (Nat.zero_add _) ?_ | refine A.vfield rfl rfl rfl rfl rfl rfl ?_ | refine A.vload rfl rfl rfl (by assumption) (by assumption) rfl ?_ | refine A.vlen rfl rfl rfl rfl ?_
      refine ⟨_, _, rfl, (Turn.inner (k := 0) (i := i) (c := 1) rfl hx rfl (Turn.freeze rfl (by simp) rfl) rfl rfl).trans ((Turn.freeze rfl (by simp) rfl).trans (Turn.weak (Weak.no (WeakL.eq ?_))))⟩
      rw [e, hpr, List.drop_zero, List.take_of_length_le (by simp), List.set_set, List.map_set]
      congr 1
      simp only [Tbl.enc, List.set_cons_succ, List.set_cons_zero, List.drop_zero]
      rw [List.take_of_length_le (by simp)]
    · rw [h3] at hp
      simp only [Nat.zero_add] at hp
      have hpr : cutRows l[i].rows key = l[i].rows.take k ++ l[i].rows.drop (k + 1) := by unfold cutRows; rw [h4]
      have d1 : decide ((0 : Int) ≤ (k : Int)) = true := by simp
      have hdel := delete (l[i].rows.map Row.enc) l[i].rows.length k hrl hk hri
      have hxc : AV.closedL (l[i].rows.map Row.enc) = true := Row.closedL _
      have hyc := delAV_closed (l[i].rows.map Row.enc) k hxc
      have hdl : (delAV (l[i].rows.map Row.enc) k).length = l[i].rows.length := by unfold delAV; simp; omega
      repeat' first
        | refine HCode.seq ?_ | refine HCode.region rfl ?_ | refine HCode.region_draw Lay.mix rfl ?_ | refine HCode.block ?_ | refine HCode.scope ?_ | refine HCode.skip ?_ | refine HCode.label ?_ | refine HCode.exit ?_ | refine HCode.ret ?_
        | refine HCode.cond_true rfl ?_ | refine HCode.cond_false rfl ?_ | refine HCode.cond_yes rfl (by assumption) ?_ | refine HCode.cond_no rfl (by assumption) ?_ | (refine HCode.cond rfl ?_ ?_ <;> intro hc)
        | refine A.nil_seq ?_ | refine A.nil (fun _ => rfl) ?_ | refine A.dead rfl ?_ | refine A.yes rfl rfl ?_ | refine A.no rfl rfl ?_ | refine A.yes rfl (by assumption) ?_ | refine A.no rfl (by assumption) ?_ | (refine A.guard rfl ?_ ?_ <;> intro hc)
        | refine A.move rfl ?_ | refine A.assign rfl ?_ | refine A.load_b rfl rfl rfl rfl ?_ | refine A.load_r rfl rfl rfl ?_ | refine A.field_b rfl rfl rfl rfl rfl rfl ?_ | refine A.field_r rfl rfl rfl rfl rfl rfl ?_ | refine A.field rfl rfl rfl rfl rfl ?_
        | refine A.index_r rfl rfl rfl rfl rfl rfl (by assumption) rfl ?_ | refine A.len rfl rfl rfl (by first | rw [List.length_map] | rfl) ?_ | refine A.lens rfl rfl rfl rfl ?_
        | refine A.pick_true rfl rfl rfl ?_ | refine A.pick_false rfl rfl rfl ?_ | refine A.pick_true rfl (by assumption) rfl ?_ | refine A.pick_false rfl (by assumption) rfl ?_
        | refine A.box rfl rfl rfl ?_ | refine A.alloc rfl rfl rfl ?_ | refine A.store rfl rfl rfl rfl rfl ?_ | refine A.build rfl rfl rfl rfl ?_ | refine A.buildSlice rfl rfl rfl rfl rfl rfl rfl ?_
        | refine A.eqi rfl rfl ?_ | refine A.nei rfl rfl ?_ | refine A.lss rfl rfl ?_ | refine A.leq rfl rfl ?_ | refine A.gtr rfl rfl ?_ | refine A.geq rfl rfl ?_ | refine A.eqb rfl rfl rfl rfl ?_ | refine A.neb rfl rfl rfl rfl ?_ | refine A.eqs rfl rfl ?_ | refine A.nes rfl rfl ?_ | refine A.lts rfl rfl ?_ | refine A.gts rfl rfl ?_
        | refine A.not rfl ?_ | refine A.extract rfl rfl ?_ | refine A.add64 rfl rfl rfl (by omega) ?_ | refine A.sub64 rfl rfl rfl (by omega) ?_
        | refine A.callN rfl rfl hn hclo (WeakL.refl _) rfl hlow ?_ | refine A.call rfl hp (WeakL.refl _) ?_ | refine A.vindex rfl rfl rfl rfl rfl rfl rfl (by assumption) (Nat.zero_add _) ?_ | refine A.vfield rfl rfl rfl rfl rfl rfl ?_ | refine A.vload rfl rfl rfl (by assumption) (by assumption) rfl ?_ | refine A.vlen rfl rfl rfl rfl ?_ | refine A.callV 1 rfl hdel rfl rfl hxc hyc rfl (WeakL.refl _) rfl rfl ?_ | refine A.vstore (agg := true) rfl rfl rfl rfl rfl hml hx rfl rfl rfl rfl ?_
      have htk := delAV_take (l[i].rows.map Row.enc) k (by simpa using hk)
      rw [hrl] at htk
      refine ⟨_, _, rfl, (Turn.inner (k := 0) (i := i) (c := 1) rfl (by simp [hi]; rfl) rfl (Turn.freeze rfl hdl rfl) rfl rfl).trans ((Turn.freeze rfl (by simp) rfl).trans (Turn.weak (Weak.no (WeakL.eq ?_))))⟩
      rw [e, hpr, List.drop_zero, List.take_of_length_le (by simp), List.set_set, List.set_set, List.map_set]
      congr 1
      simp only [Tbl.enc, List.set_cons_succ, List.set_cons_zero, List.drop_zero, htk, List.map_append, List.map_take, List.map_drop]
end Go.Proofs.YtajddgpkflbnaaaDoor
