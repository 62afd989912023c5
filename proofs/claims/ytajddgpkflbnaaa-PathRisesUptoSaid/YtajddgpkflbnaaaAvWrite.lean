/-
  The rules of operations that make memory or write it.
-/
import Derived.Test.YtajddgpkflbnaaaAvRules
set_option linter.unusedVariables false
namespace Go.Av
open Go
set_option linter.unusedSectionVars false
variable [Globals]

theorem setRow_eq_rowW {w : World} {b : Nat} {cur : Array Value} {T : TypeId} (h : w.heap[b]? = some (.cells cur T (0, 0))) (vals : Array Value) : w.setRow b vals = rowW w b vals T := by
  unfold World.setRow rowW
  congr 1
  apply Array.ext_getElem?
  intro i
  rw [Array.getElem?_modify, Array.getElem?_setIfInBounds]
  by_cases e : b = i
  · subst e
    have hlt : b < w.heap.size := (Array.getElem?_eq_some_iff.1 h).1
    have h2 := h
    rw [Array.getElem?_eq_getElem hlt] at h2
    have h3 := Option.some.inj h2
    simp [hlt, h3]
  · simp [e]

/-- Cells stored one by one, into cells that are there. -/
structure Stored (w w' : World) (b o : Nat) (vs : List Value) : Prop where
  size : w'.heap.size = w.heap.size
  os : w'.os = w.os
  tape : w'.tape = w.tape
  output : w'.output = w.output
  block : ∀ c, c ≠ b → w'.heap[c]? = w.heap[c]?
  here : ∀ (j : Nat) (v : Value), vs[j]? = some v → w'.cell? ⟨b, o + j, none⟩ = some v
  there : ∀ p, p < o ∨ o + vs.length ≤ p → w'.cell? ⟨b, p, none⟩ = w.cell? ⟨b, p, none⟩
  frozen : ∀ p, w'.frozen? ⟨b, p, none⟩ = w.frozen? ⟨b, p, none⟩

theorem setCell_heap_other (w : World) (a : Addr) (v : Value) {c : Nat} (h : c ≠ a.block) : (w.setCell a v).heap[c]? = w.heap[c]? := by
  simp only [World.setCell, Array.getElem?_modify]
  rw [if_neg (Ne.symm h)]

theorem run_stored {P : Program} (b : Nat) : ∀ (vs : List Value) (i o : Nat) (w : World), (∀ j, j < vs.length → ∃ v, w.cell? ⟨b, o + i + j, none⟩ = some v) → (∀ j, j < vs.length → w.frozen? ⟨b, o + i + j, none⟩ = false) → (∀ v ∈ vs, v.oneCell' = true) →
    ∃ w', (storeCells ⟨b, o, none⟩ vs i).run P w = .ok () w' ∧ Stored w w' b (o + i) vs
  | [], i, o, w, _, _, _ => ⟨w, rfl, rfl, rfl, rfl, rfl, fun _ _ => rfl, fun j v h => by simp at h, fun _ _ => rfl, fun _ => rfl⟩
  | v :: vs, i, o, w, hc, hf, h1 => by
    obtain ⟨v0, hv0⟩ := hc 0 (by simp)
    have hf0 := hf 0 (by simp)
    simp only [Nat.add_zero] at hv0 hf0
    have hst : (store ((⟨b, o, none⟩ : Addr).add i) v).run P w = .ok () (w.setCell ⟨b, o + i, none⟩ v) := by
      rw [addr_add, run_store P w _ v _ (h1 v (by simp)), hv0]
      simp [hf0]
    have hsame : (w.setCell ⟨b, o + i, none⟩ v).cell? ⟨b, o + i, none⟩ = some v := World.cell?_setCell_same w _ v hv0
    have hoth : ∀ p, p ≠ o + i → (w.setCell ⟨b, o + i, none⟩ v).cell? ⟨b, p, none⟩ = w.cell? ⟨b, p, none⟩ := fun p hp => World.cell?_setCell_other w _ _ v (by intro e; cases e; exact hp rfl)
    have hfro : ∀ p, (w.setCell ⟨b, o + i, none⟩ v).frozen? ⟨b, p, none⟩ = w.frozen? ⟨b, p, none⟩ := fun p => by
      simp only [World.frozen?, World.setCell, Array.getElem?_modify, if_true]
      cases hb : w.heap[b]? with
      | none => rfl
      | some x => cases x <;> rfl
    obtain ⟨w', hr, hs⟩ := run_stored (P := P) b vs (i + 1) o (w.setCell ⟨b, o + i, none⟩ v) (fun j hj => by
        rw [hoth _ (by omega)]
        have := hc (j + 1) (by simpa using hj)
        rwa [show o + i + (j + 1) = o + (i + 1) + j by omega] at this)
      (fun j hj => by
        rw [hfro]
        have := hf (j + 1) (by simpa using hj)
        rwa [show o + i + (j + 1) = o + (i + 1) + j by omega] at this) (fun u hu => h1 u (by simp [hu]))
    refine ⟨w', ?_, by rw [hs.size]; simp [World.setCell], hs.os, hs.tape, hs.output, fun c hcb => (hs.block c hcb).trans (setCell_heap_other w _ v hcb), fun j u hu => ?_, fun p hp => ?_, fun p => (hs.frozen p).trans (hfro p)⟩
    · simp only [storeCells, Sem.run_bind, hst, Result.andThen]
      exact hr
    · cases j with
      | zero =>
        simp at hu
        subst hu
        rw [Nat.add_zero, hs.there (o + i) (by omega)]
        exact hsame
      | succ j =>
        have := hs.here j u (by simpa using hu)
        rwa [show o + (i + 1) + j = o + i + (j + 1) by omega] at this
    · simp only [List.length_cons] at hp
      rw [hs.there p (by omega)]
      exact hoth p (by omega)

section rules
variable {P : Program} [Lay P] {all : Array Oper} {draw : Bool} {K : AX → Slots → St → Prop} {rest : List Oper} {acc : List Tag} {s : Slots} {σ : St}
variable {d : Tmp} {ty : TypeId} {pos : String} {af : Array Edge}

omit [Lay P] in
/-- A new variable that holds a value. -/
theorem A.box {T : TypeId} {x : Operand} {v : AV} {i : Nat} {B' : List Ob} (hx : ev? s x = some v) (hi : smallLen σ.B = some i) (hB : cellsK v (fun cs => snocK σ.B (.cells cs) some) = some B')
    (k : AOps P all draw K rest (.wb :: acc) ((d, .ptr i 0) :: s) ⟨B', σ.T⟩) : AOps P all draw K (⟨some d, .box T x, ty, pos, af, none⟩ :: rest) acc s σ :=
  A.step (t := .wb) (σ' := ⟨B', σ.T⟩) rfl ⟨rfl, fun τ => by
    intro g w a next Q hI ho hn
    have h1 := op1 hx (by simp [Op.operands]) ho
    obtain ⟨cs, h2, h3, h4⟩ := cellsK_spec hB h1
    have h5 := snocK_spec _ _ _ _ h2
    have h6 : σ.B ++ [.cells cs] = B' := Option.some.inj h5
    obtain ⟨n1, n2⟩ := new_ob hI (.cells (a.eval x).cells T) (.cells cs) (fun g' hle => ⟨_, T, push_new w _, RepL.mono hle _ _ h3, h4⟩)
    unfold Oper.wp
    simp only [execOp, Instr.box, newVar, newRow, newObj, Sem.run_bind, Result.andThen, Sem.run]
    refine hn _ _ _ n1 (h6 ▸ n2) ⟨w.heap.size, ?_, rfl⟩
    have : i = g.bx.length := by rw [hI.lenB]; exact (smallLen_spec hi).symm
    rw [this]
    simp⟩ k

/-- A new variable, at its type's zero. -/
theorem A.alloc {T : TypeId} {i : Nat} {B' : List Ob} {ti : TI} (hT : ty? P T = some ti) (hi : smallLen σ.B = some i) (hB : cellsK ti.zero (fun cs => snocK σ.B (.cells cs) some) = some B')
    (k : AOps P all draw K rest (.wb :: acc) ((d, .ptr i 0) :: s) ⟨B', σ.T⟩) : AOps P all draw K (⟨some d, .alloc T, ty, pos, af, none⟩ :: rest) acc s σ :=
  A.step (t := .wb) (σ' := ⟨B', σ.T⟩) rfl ⟨rfl, fun τ => by
    intro g w a next Q hI ho hn
    obtain ⟨z, hz, hz1, hz2, hz3⟩ := run_zero' hT w
    have h1 : Rep g w ti.zero z := by rw [← hz1]; exact rep_ofConst g w z
    obtain ⟨cs, h2, h3, h4⟩ := cellsK_spec hB h1
    have h6 : σ.B ++ [.cells cs] = B' := Option.some.inj (snocK_spec _ _ _ _ h2)
    obtain ⟨n1, n2⟩ := new_ob hI (.cells z.cells T) (.cells cs) (fun g' hle => ⟨_, T, push_new w _, RepL.mono hle _ _ h3, h4⟩)
    unfold Oper.wp
    simp only [execOp, Instr.alloc, hz, newVar, newRow, newObj, Sem.run_bind, Result.andThen, Sem.run]
    refine hn _ _ _ n1 (h6 ▸ n2) ⟨w.heap.size, ?_, rfl⟩
    have : i = g.bx.length := by rw [hI.lenB]; exact (smallLen_spec hi).symm
    rw [this]
    simp⟩ k

/-- A store into a variable. -/
theorem A.store {T : TypeId} {x y : Operand} {i off : Nat} {v : AV} {B' : List Ob} {ti : TI} (hT : ty? P T = some ti) (hx : ev? s x = some (.ptr i off)) (hy : ev? s y = some v) (hf : fits ti.agg ti.size v = true)
    (hB : setK i σ.B (fun o k => match o with | .cells cs => cellsK v (fun vs => overK off vs cs (fun cs' => k (.cells cs'))) | _ => none) some = some B')
    (k : AOps P all draw K rest (.wi i :: acc) s ⟨B', σ.T⟩) : AOps P all draw K (⟨none, .store T x y, ty, pos, af, none⟩ :: rest) acc s σ := by
  obtain ⟨o, ho1, ho2⟩ := setK_spec _ _ _ _ _ hB
  cases o with
  | map es => cases ho2
  | iter s p => cases ho2
  | cells cs =>
    obtain ⟨h2, hvs⟩ := cellsK_pure ho2
    obtain ⟨hlen, h5⟩ := overK_spec _ _ _ _ _ h2
    have h6 : σ.B.set i (.cells (cs.take off ++ cellsL v ++ cs.drop (off + (cellsL v).length))) = B' := Option.some.inj h5
    refine A.step (t := .wi i) (v := .undef) (σ' := ⟨B', σ.T⟩) rfl ⟨.cells (cs.take off ++ cellsL v ++ cs.drop (off + (cellsL v).length)), by rw [h6], fun B τ hBi => ?_⟩ k
    intro g w a next Q hI ho hn
    obtain ⟨b, hb, e⟩ := op1 hx (by simp [Op.operands]) ho
    have h1 := op1 hy (by simp [Op.operands]) ho
    obtain ⟨vs, h2', h3, h4⟩ := cellsK_spec hvs h1
    have hve : vs = cellsL v := Option.some.inj h2'
    rw [← hve] at hlen hn
    obtain ⟨vals, T', hh, hl, hone⟩ := hI.ob i b _ hb (hBi.trans ho1)
    obtain ⟨f1, _⟩ := fits_spec hf h1
    have hvl : (a.eval y).cells.toList.length = vs.length := h3.length
    have hcl : vals.toList.length = cs.length := hl.length
    have hst := run_storeCells_at P b off T' (a.eval y).cells.toList 0 vals w hh (by rw [hvl]; simp at hcl; omega) h4
    rw [setRow_eq_rowW hh, Nat.add_zero] at hst
    have hrl : RepL g w (cs.take off ++ vs ++ cs.drop (off + vs.length)) (vals.toList.take off ++ (a.eval y).cells.toList ++ vals.toList.drop (off + (a.eval y).cells.toList.length)).toArray.toList := by
      rw [List.toList_toArray, hvl]
      exact ((hl.take off).append h3).append (hl.drop _)
    obtain ⟨n1, n2⟩ := write_ob hI hb hrl (fun u hu => by
      rw [List.toList_toArray] at hu
      simp only [List.mem_append] at hu
      rcases hu with (hu | hu) | hu
      · exact hone u (List.mem_of_mem_take hu)
      · exact h4 u hu
      · exact hone u (List.mem_of_mem_drop hu)) (T := T') (hBi.trans ho1)
    unfold Oper.wp
    simp only [execOp, e, Instr.storeAt, Instr.sureAddr, storeVar, Sem.run_bind, Sem.run_pure, Result.andThen, run_sizeOf' hT, f1, ne_eq, not_true_eq_false, if_false, hst]
    exact hn undef _ g n1 n2 trivial
end rules
end Go.Av
