/-
  How worlds grow under the operations: new variables, new data, stores.
-/
import Derived.Test.YtmfmdehfbpkgdaaGreatDoorAvMem
set_option linter.unusedVariables false
namespace Go.Av
open Go
set_option linter.unusedSectionVars false
variable [Globals]
section
variable {g : Gh} {σ : St} {w : World}
def pushW (w : World) (o : Obj) : World := { w with heap := w.heap.push o }
theorem push_old (w : World) (o : Obj) {b : Nat} (h : b < w.heap.size) : (pushW w o).heap[b]? = w.heap[b]? := by
  show (w.heap.push o)[b]? = _
  rw [Array.getElem?_push, if_neg (by omega)]
theorem push_new (w : World) (o : Obj) : (pushW w o).heap[w.heap.size]? = some o := by
  show (w.heap.push o)[w.heap.size]? = _
  simp
theorem push_size (w : World) (o : Obj) : (pushW w o).heap.size = w.heap.size + 1 := by simp [pushW]
theorem cell_old {w w' : World} {b o : Nat} (h : w'.heap[b]? = w.heap[b]?) : w'.cell? ⟨b, o, none⟩ = w.cell? ⟨b, o, none⟩ ∧ w'.frozen? ⟨b, o, none⟩ = w.frozen? ⟨b, o, none⟩ :=
  ⟨World.cell?_of_block (a := ⟨b, o, none⟩) h, World.frozen?_of_block (a := ⟨b, o, none⟩) h⟩
theorem Inv.bx_lt (hi : Inv g σ w) {b : Nat} (hb : b ∈ g.bx) : b < w.heap.size := by
  obtain ⟨i, hi', rfl⟩ := List.getElem_of_mem hb
  have hlt : i < σ.B.length := by rw [← hi.lenB]; exact hi'
  exact (hi.ob i _ _ (List.getElem?_eq_getElem hi') (List.getElem?_eq_getElem hlt)).lt
theorem Inv.z_lt (hi : Inv g σ w) {k : Nat} {r : Rec} (hk : g.tk[k]? = some r) {b o : Nat} (ho : r.zone b o) : b < w.heap.size := by
  obtain ⟨v, hv⟩ := (hi.tkz k r hk b o ho).2.2.1
  unfold World.cell? at hv
  cases hb : w.heap[b]? with
  | none => simp [hb] at hv
  | some x => exact (Array.getElem?_eq_some_iff.1 hb).1
theorem grow_le (hi : Inv g σ w) (o : Obj) {g' : Gh} (hbx : ∀ (i b : Nat), g.bx[i]? = some b → g'.bx[i]? = some b) (him : ∀ b o, g.im b o → g'.im b o) (htk : g'.tk = g.tk) : Le g w g' (pushW w o) :=
  ⟨fun b o' h => ⟨him b o' h, (cell_old (push_old w o (hi.imlt b o' h))).1⟩, hbx, fun k r h => ⟨r, by rw [htk]; exact h, .inl rfl⟩⟩
theorem new_ob (hi : Inv g σ w) (o : Obj) (ob : Ob) (hob : ∀ (g' : Gh), Le g w g' (pushW w o) → ObOk g' (pushW w o) w.heap.size ob) :
    Ext g w ⟨g.bx ++ [w.heap.size], g.tk, g.im⟩ (pushW w o) ∧ Inv ⟨g.bx ++ [w.heap.size], g.tk, g.im⟩ ⟨σ.B ++ [ob], σ.T⟩ (pushW w o) := by
  have hle : Le g w ⟨g.bx ++ [w.heap.size], g.tk, g.im⟩ (pushW w o) := grow_le hi o (fun i b h => by
    have := (List.getElem?_eq_some_iff.1 h).1
    simpa [List.getElem?_append_left this] using h) (fun _ _ h => h) rfl
  refine ⟨⟨hle, by rw [push_size]; omega, rfl, rfl, rfl, fun b hb _ _ => push_old w o hb, fun b o' hb _ _ => cell_old (push_old w o hb), fun b o' h => .inl h, fun b hb => ?_, fun k r h b o' ho => .inr ⟨r, h, ho⟩⟩, ?_⟩
  · simp only [List.mem_append, List.mem_singleton] at hb
    rcases hb with hb | rfl
    · exact .inl hb
    · exact .inr (Nat.le_refl _)
  · refine ⟨by simp [hi.lenB], hi.lenT, fun i b ob' h1 h2 => ?_, ?_, fun b hb o' h => ?_, fun k t r hk ht => (hi.tok k t r hk ht).mono hle fun b o' ho => (cell_old (push_old w o (hi.z_lt hk ho))).1, fun k r hk b o' ho => ?_, hi.tkd, fun b o' h => by have := hi.imlt b o' h; rw [push_size]; omega, hi.gl.le hle⟩
    · by_cases e : i < g.bx.length
      · have e' : i < σ.B.length := by rw [← hi.lenB]; exact e
        simp only [List.getElem?_append_left e] at h1
        simp only [List.getElem?_append_left e'] at h2
        exact (hi.ob i b ob' h1 h2).mono hle (push_old w o (hi.bx_lt (List.mem_of_getElem? h1)))
      · have hlt := (List.getElem?_eq_some_iff.1 h1).1
        simp only [List.length_append, List.length_cons, List.length_nil] at hlt
        have e1 : i = g.bx.length := by omega
        subst e1
        simp only [List.getElem?_append_right (Nat.le_refl _), Nat.sub_self, List.getElem?_cons_zero, Option.some.injEq] at h1
        rw [hi.lenB] at h2
        simp only [List.getElem?_append_right (Nat.le_refl _), Nat.sub_self, List.getElem?_cons_zero, Option.some.injEq] at h2
        subst h1; subst h2
        exact hob _ hle
    · rw [List.nodup_append]
      refine ⟨hi.nodup, by simp, fun a ha b hb e => ?_⟩
      simp at hb
      have := hi.bx_lt ha
      omega
    · simp only [List.mem_append, List.mem_singleton] at hb
      rcases hb with hb | rfl
      · exact hi.noim b hb o' h
      · have := hi.imlt _ o' h; omega
    · obtain ⟨h1, h2, h3, h4⟩ := hi.tkz k r hk b o' ho
      have hb := hi.z_lt hk ho
      have hc := cell_old (o := o') (push_old w o hb)
      refine ⟨h1, ?_, by rw [hc.1]; exact h3, hc.2.trans h4⟩
      simp only [List.mem_append, List.mem_singleton, not_or]
      exact ⟨h2, by omega⟩
theorem new_data (hi : Inv g σ w) (cells : Array Value) (T : TypeId) (n : Nat) (hn : n ≤ cells.size) :
    Ext g w ⟨g.bx, g.tk, fun b o => g.im b o ∨ (b = w.heap.size ∧ o < n)⟩ (pushW w (.cells cells T)) ∧ Inv ⟨g.bx, g.tk, fun b o => g.im b o ∨ (b = w.heap.size ∧ o < n)⟩ σ (pushW w (.cells cells T)) := by
  have hle : Le g w ⟨g.bx, g.tk, fun b o => g.im b o ∨ (b = w.heap.size ∧ o < n)⟩ (pushW w (.cells cells T)) := grow_le hi _ (fun _ _ h => h) (fun _ _ h => .inl h) rfl
  refine ⟨⟨hle, by rw [push_size]; omega, rfl, rfl, rfl, fun b hb _ _ => push_old w _ hb, fun b o' hb _ _ => cell_old (push_old w _ hb), fun b o' h => ?_, fun b hb => .inl hb, fun k r h b o' ho => .inr ⟨r, h, ho⟩⟩, ?_⟩
  · rcases h with h | ⟨rfl, _⟩
    · exact .inl h
    · exact .inr (.inl (Nat.le_refl _))
  · refine ⟨hi.lenB, hi.lenT, fun i b ob' h1 h2 => (hi.ob i b ob' h1 h2).mono hle (push_old w _ (hi.bx_lt (List.mem_of_getElem? h1))), hi.nodup, fun b hb o' h => ?_, fun k t r hk ht => (hi.tok k t r hk ht).mono hle fun b o' ho => (cell_old (push_old w _ (hi.z_lt hk ho))).1, fun k r hk b o' ho => ?_, hi.tkd, fun b o' h => ?_, hi.gl.le hle⟩
    · rcases h with h | ⟨rfl, _⟩
      · exact hi.noim b hb o' h
      · have := hi.bx_lt hb; omega
    · obtain ⟨h1, h2, h3, h4⟩ := hi.tkz k r hk b o' ho
      have hb := hi.z_lt hk ho
      have hc := cell_old (o := o') (push_old w (.cells cells T) hb)
      refine ⟨fun h => ?_, h2, by rw [hc.1]; exact h3, hc.2.trans h4⟩
      rcases h with h | ⟨rfl, _⟩
      · exact h1 h
      · omega
    · rw [push_size]
      rcases h with h | ⟨rfl, _⟩
      · have := hi.imlt b o' h; omega
      · omega
theorem new_data_cell (w : World) (cells : Array Value) (T : TypeId) (o : Nat) : (pushW w (.cells cells T)).cell? ⟨w.heap.size, o, none⟩ = cells[o]? := by
  unfold World.cell?
  rw [push_new]
  simp
theorem new_data_frozen (w : World) (cells : Array Value) (T : TypeId) (o : Nat) : (pushW w (.cells cells T)).frozen? ⟨w.heap.size, o, none⟩ = false := by
  unfold World.frozen?
  rw [push_new]
  simp
def rowW (w : World) (b : Nat) (vals : Array Value) (T : TypeId) : World := { w with heap := w.heap.setIfInBounds b (.cells vals T (0, 0)) }
theorem row_same (w : World) {b : Nat} (h : b < w.heap.size) (vals : Array Value) (T : TypeId) : (rowW w b vals T).heap[b]? = some (.cells vals T (0, 0)) := by
  show (w.heap.setIfInBounds b _)[b]? = _
  rw [Array.getElem?_setIfInBounds_self_of_lt h]
theorem row_other (w : World) {b c : Nat} (h : c ≠ b) (vals : Array Value) (T : TypeId) : (rowW w b vals T).heap[c]? = w.heap[c]? := by
  show (w.heap.setIfInBounds b _)[c]? = _
  rw [Array.getElem?_setIfInBounds_ne (Ne.symm h)]
theorem write_ob (hi : Inv g σ w) {i b : Nat} (hb : g.bx[i]? = some b) {vals : Array Value} {T : TypeId} {cs : List AV} (hcs : RepL g w cs vals.toList) (h1 : ∀ u ∈ vals.toList, u.oneCell' = true) {cs0 : List AV} (hob : σ.B[i]? = some (.cells cs0)) :
    Ext g w g (rowW w b vals T) ∧ Inv g ⟨σ.B.set i (.cells cs), σ.T⟩ (rowW w b vals T) := by
  have hlt := hi.bx_lt (List.mem_of_getElem? hb)
  have hbm := List.mem_of_getElem? hb
  have hle : Le g w g (rowW w b vals T) := ⟨fun c o h => by
    have hne : c ≠ b := fun e => hi.noim b hbm o (e ▸ h)
    exact ⟨h, (cell_old (row_other w hne vals T)).1⟩, fun _ _ h => h, fun k r h => ⟨r, h, .inl rfl⟩⟩
  refine ⟨⟨hle, by simp [rowW], rfl, rfl, rfl, fun c hc hn _ => row_other w (fun e => hn (by rw [e]; exact hbm)) vals T, fun c o hc hn _ => cell_old (row_other w (fun e => hn (by rw [e]; exact hbm)) vals T), fun _ _ h => .inl h, fun _ h => .inl h, fun k r h c o ho => .inr ⟨r, h, ho⟩⟩, ?_⟩
  refine ⟨by simp [hi.lenB], hi.lenT, fun j c ob h2 h3 => ?_, hi.nodup, hi.noim, fun k t r hk ht => (hi.tok k t r hk ht).mono hle fun c o ho => (cell_old (row_other w (fun e => (hi.tkz k r hk c o ho).2.1 (by rw [e]; exact hbm)) vals T)).1, fun k r hk c o ho => ?_, hi.tkd, fun c o h => by simpa [rowW] using hi.imlt c o h, hi.gl.le hle⟩
  · by_cases e : j = i
    · subst e
      rw [hb] at h2
      cases h2
      have hj : j < σ.B.length := (List.getElem?_eq_some_iff.1 hob).1
      simp only [List.getElem?_set_self hj, Option.some.injEq] at h3
      subst h3
      exact ⟨vals, T, row_same w hlt vals T, RepL.mono hle _ _ hcs, h1⟩
    · simp only [List.getElem?_set_ne (Ne.symm e)] at h3
      have hne : c ≠ b := by
        intro ec
        subst ec
        have := (List.getElem?_inj (List.getElem?_eq_some_iff.1 h2).1 hi.nodup).1 (h2.trans hb.symm)
        exact e this
      exact (hi.ob j c ob h2 h3).mono hle (row_other w hne vals T)
  · obtain ⟨h2, h3, h4, h5⟩ := hi.tkz k r hk c o ho
    have hne : c ≠ b := fun e => h3 (e ▸ hbm)
    have hc := cell_old (o := o) (row_other w hne vals T)
    exact ⟨h2, h3, by rw [hc.1]; exact h4, hc.2.trans h5⟩
end
end Go.Av
set_option linter.unusedVariables false
namespace Go.Av
open Go
set_option linter.unusedSectionVars false
variable [Globals]
section tools
variable {P : Program} [Lay P]
omit [Lay P] in
theorem run_info {t : TypeId} {i : TypeInfo} (h : P.info? t = some i) (w : World) : (typeInfo t).run P w = .ok i w := by simp [typeInfo, h]
theorem run_isAgg' {t : TypeId} {ti : TI} (h : ty? P t = some ti) (w : World) : (isAgg t).run P w = .ok ti.agg w := by
  obtain ⟨info, d, z, h1, h2, h3, h4, h5, h6, _⟩ := (ty_ok h).ex
  unfold isAgg
  simp only [Sem.run_bind, run_underlying h2, Result.andThen]
  rw [← h5]
  cases d <;> rfl
theorem run_sizeOf' {t : TypeId} {ti : TI} (h : ty? P t = some ti) (w : World) : (sizeOf t).run P w = .ok ti.size w := by
  obtain ⟨info, d, z, h1, h2, h3, h4, h5, h6, _⟩ := (ty_ok h).ex
  unfold sizeOf
  simp only [Sem.run_bind, run_info h1, Result.andThen]
  rw [← h6]
  rfl
theorem run_zero' {t : TypeId} {ti : TI} (h : ty? P t = some ti) (w : World) : ∃ z, (zeroValue t).run P w = .ok z w ∧ ofConst z = ti.zero ∧ z.cells.size = ti.size ∧ ∀ v ∈ z.cells.toList, v.oneCell' = true := by
  obtain ⟨info, d, z, h1, h2, h3, h4, h5, h6, h7, h8, h9, h10, h11, h12, _⟩ := (ty_ok h).ex
  refine ⟨z, ?_, h9, h10, List.all_eq_true.1 h12⟩
  unfold zeroValue
  simp only [Sem.run_bind, run_info h1, Result.andThen, h8]
  rfl
theorem addr_add (b o n : Nat) : (⟨b, o, none⟩ : Addr).add n = ⟨b, o + n, none⟩ := by
  unfold Addr.add
  split
  · rename_i h; subst h; rfl
  · rfl
theorem run_loadVar_mem {t : TypeId} {ti : TI} (h : ty? P t = some ti) {w : World} {b o : Nat} {V : Value} (hc : ∀ (j : Nat) (u : Value), V.cells[j]? = some u → w.cell? ⟨b, o + j, none⟩ = some u)
    (h1 : ti.agg = true → ∃ vs, V = .agg vs ∧ vs.size = ti.size) (h2 : ti.agg = false → V.cells = #[V]) : (loadVar t ⟨b, o, none⟩).run P w = .ok V w := by
  unfold loadVar
  simp only [Sem.run_bind, run_isAgg' h, Result.andThen]
  cases e : ti.agg with
  | true =>
    obtain ⟨vs, rfl, hs⟩ := h1 e
    simp only [if_true, Sem.run_bind, run_sizeOf' h, Result.andThen]
    have := run_loadCells_list (P := P) w ⟨b, o, none⟩ vs.toList (fun j u hj => by rw [addr_add]; exact hc j u (by simpa [Value.cells] using hj))
    rw [show vs.toList.length = ti.size by simpa using hs] at this
    rw [this]
    simp
  | false =>
    have h3 := hc 0 V (by rw [h2 e]; rfl)
    simp only [Bool.false_eq_true, if_false]
    rw [run_load]
    simp only [Nat.add_zero] at h3
    rw [h3]
end tools
section rules
variable {P : Program} [Lay P] {all : Array Oper} {draw : Bool} {K : AX → Slots → St → Prop} {rest : List Oper} {acc : List Tag} {s : Slots} {σ : St}
variable {d : Tmp} {ty : TypeId} {pos : String} {af : Array Edge}
theorem op1 {o : Oper} {x : Operand} {v : AV} (hx : ev? s x = some v) {g : Gh} {w : World} {a : Act} (hm : x ∈ o.op.operands.toList) (ho : ∀ x, x ∈ o.op.operands.toList → Rep g w (ev s x) (a.eval x)) : Rep g w v (a.eval x) := by
  have := ho x hm
  rwa [ev_of hx] at this
theorem A.load_r {T : TypeId} {x : Operand} {y : AV} {ti : TI} (hT : ty? P T = some ti) (hx : ev? s x = some (.rptr y)) (hf : fits ti.agg ti.size y = true) (k : AOps P all draw K rest (.pure :: acc) ((d, y) :: s) σ) :
    AOps P all draw K (⟨some d, .load T x, ty, pos, af, none⟩ :: rest) acc s σ :=
  A.step rfl (tpure fun g w a ho => by
    have h1 := op1 hx (by simp [Op.operands]) ho
    obtain ⟨b, o, V, e, h2, h3⟩ := h1
    obtain ⟨f1, f2, f3, f4⟩ := fits_spec hf h3
    refine ⟨V, ?_, h3⟩
    simp only [execOp, e, Instr.loadAt, Instr.sureAddr, Sem.run_bind, Sem.run_pure, Result.andThen]
    rw [run_loadVar_mem hT (fun j u hj => (h2 j u hj).2.1) f2 (fun e => (f3 e).1)]) k
theorem load_obj {P : Program} [Lay P] {σ : St} {T : TypeId} {i off b : Nat} {cs : List AV} {v : AV} {ti : TI} {g : Gh} {w : World} (hT : ty? P T = some ti) (hi : Inv g σ w) (hb : g.bx[i]? = some b) (hB : σ.B[i]? = some (.cells cs)) (hv : cut ti.agg ti.size off cs = some v) :
    ∃ V, Rep g w v V ∧ (loadVar T ⟨b, off, none⟩).run P w = .ok V w := by
    obtain ⟨vals, T', hh, hl, hone⟩ := hi.ob i b _ hb hB
    have hcell : ∀ j, w.cell? ⟨b, j, none⟩ = vals[j]? := by intro j; unfold World.cell?; rw [hh]; simp
    obtain ⟨V, hV, h2, h3, h4⟩ : ∃ V, Rep g w v V ∧ (∀ (j : Nat) (u : Value), V.cells[j]? = some u → w.cell? ⟨b, off + j, none⟩ = some u) ∧ (ti.agg = true → ∃ vs, V = .agg vs ∧ vs.size = ti.size) ∧ (ti.agg = false → V.cells = #[V]) := by
      rcases cut_spec hv with ⟨ha, _, rfl, hlen⟩ | ⟨ha, hg⟩
      · have hl2 := (hl.drop off).take ti.size
        have hsz : ((vals.toList.drop off).take ti.size).length = ti.size := by
          have := (hl.drop off).length
          rw [List.length_take, this]
          omega
        refine ⟨.agg ((vals.toList.drop off).take ti.size).toArray, ⟨_, rfl, by simpa using hl2, fun u hu => ?_⟩, fun j u hj => ?_, fun _ => ⟨_, rfl, by simpa using hsz⟩, fun e => ?_⟩
        · refine hone u (List.mem_of_mem_drop (List.mem_of_mem_take (i := ti.size) (l := vals.toList.drop off) (by simpa using hu)))
        · rw [hcell]
          simp only [Value.cells, List.getElem?_toArray, List.getElem?_take, List.getElem?_drop, Array.getElem?_toList] at hj
          split at hj
          · exact hj
          · cases hj
        · rw [ha] at e; cases e
      · obtain ⟨u, hu, hr⟩ := hl.get hg
        rw [Array.getElem?_toList] at hu
        have h1c := hone u (by simpa using Array.mem_of_getElem? hu)
        have hc : u.cells = #[u] := by cases u <;> first | rfl | cases h1c
        refine ⟨u, hr, fun j u' hj => ?_, fun e => ?_, fun _ => hc⟩
        · rw [hc] at hj
          cases j with
          | zero => simp at hj; subst hj; rw [hcell]; exact hu
          | succ j => simp at hj
        · rw [ha] at e; cases e
    exact ⟨V, hV, run_loadVar_mem hT h2 h3 h4⟩
theorem A.load_b {T : TypeId} {x : Operand} {i off : Nat} {cs : List AV} {v : AV} {ti : TI} (hT : ty? P T = some ti) (hx : ev? s x = some (.ptr i off)) (hB : σ.B[i]? = some (.cells cs)) (hv : cut ti.agg ti.size off cs = some v)
    (k : AOps P all draw K rest (.ri i :: acc) ((d, v) :: s) σ) : AOps P all draw K (⟨some d, .load T x, ty, pos, af, none⟩ :: rest) acc s σ :=
  A.step (t := .ri i) rfl ⟨rfl, fun B τ hBi => by
    intro g w a next Q hi ho hn
    have h1 := op1 hx (by simp [Op.operands]) ho
    obtain ⟨b, hb, e⟩ := h1
    obtain ⟨V, hV, hrun⟩ := load_obj (σ := ⟨B, τ⟩) hT hi hb (hBi.trans hB) hv
    unfold Oper.wp
    simp only [execOp, e, Instr.loadAt, Instr.sureAddr, Sem.run_bind, Sem.run_pure, Result.andThen]
    rw [hrun]
    exact hn V w g (Ext.refl g w) hi hV⟩ k
theorem A.field_b {T : TypeId} {x : Operand} {f i off o n : Nat} {ag : Bool} {ti : TI} {r : Nat} (hT : ty? P T = some ti) (hx : ev? s x = some (.ptr i off)) (hf : ti.fields[f]? = some (o, n, ag)) (hk : ti.kind = .struct) (hn : Nat.blt 0 n = true)
    (hr : off + o = r) (k : AOps P all draw K rest (.pure :: acc) ((d, .ptr i r) :: s) σ) : AOps P all draw K (⟨some d, .fieldAddr T x f, ty, pos, af, none⟩ :: rest) acc s σ :=
  A.step rfl (tpure fun g w a ho => by
    have h1 := op1 hx (by simp [Op.operands]) ho
    obtain ⟨b, hb, e⟩ := h1
    refine ⟨.pointer (some ⟨b, off + o, none⟩), ?_, ⟨b, hb, by rw [hr]⟩⟩
    obtain ⟨info, dd, z, t1, t2, t3, t4, t5, t6, t7, t8, t9, t10, t11, t12, t13⟩ := (ty_ok hT).ex
    have hd : ∃ fs, dd = .struct fs := by rw [hk] at t3; cases dd <;> first | exact ⟨_, rfl⟩ | cases t3
    obtain ⟨fs, rfl⟩ := hd
    rw [← t11] at hf
    simp only [fieldsOf, List.getElem?_map, Option.map_eq_some_iff, Prod.mk.injEq] at hf
    obtain ⟨fd, hfd, rfl, hs, _⟩ := hf
    rw [Array.getElem?_toList] at hfd
    have hin := t13 fs rfl fd (by simpa using Array.mem_of_getElem? hfd)
    have hsz : (sizeOf fd.type).run P w = .ok n w := by
      unfold sizeOf
      cases hi' : P.info? fd.type with
      | none => rw [hi'] at hin; simp at hin
      | some inf =>
        have : P.cellsOf fd.type = inf.size := by simp [Program.cellsOf, hi']
        simp only [Sem.run_bind, run_info hi', Result.andThen]
        rw [← hs, this]
        rfl
    have hn0 : n ≠ 0 := by have := Nat.le_of_ble_eq_true hn; omega
    simp only [execOp, e, Instr.fieldAt, Sem.run_bind, run_underlying t2, Result.andThen, hfd, Instr.sureAddr, Sem.run_pure, fieldPlace, hsz, if_neg hn0, addr_add]) k
theorem A.field_r {T : TypeId} {x : Operand} {f o n : Nat} {ag : Bool} {ti : TI} {cs : List AV} {y : AV} (hT : ty? P T = some ti) (hx : ev? s x = some (.rptr (.agg cs))) (hf : ti.fields[f]? = some (o, n, ag)) (hk : ti.kind = .struct) (hn : Nat.blt 0 n = true)
    (hy : cut ag n o cs = some y) (k : AOps P all draw K rest (.pure :: acc) ((d, .rptr y) :: s) σ) : AOps P all draw K (⟨some d, .fieldAddr T x f, ty, pos, af, none⟩ :: rest) acc s σ :=
  A.step rfl (tpure fun g w a ho => by
    have h1 := op1 hx (by simp [Op.operands]) ho
    obtain ⟨b, off, V, e, hm, vs, rfl, hl, hone⟩ := h1
    refine ⟨.pointer (some ⟨b, off + o, none⟩), ?_, ?_⟩
    · obtain ⟨info, dd, z, t1, t2, t3, t4, t5, t6, t7, t8, t9, t10, t11, t12, t13⟩ := (ty_ok hT).ex
      have hd : ∃ fs, dd = .struct fs := by rw [hk] at t3; cases dd <;> first | exact ⟨_, rfl⟩ | cases t3
      obtain ⟨fs, rfl⟩ := hd
      rw [← t11] at hf
      simp only [fieldsOf, List.getElem?_map, Option.map_eq_some_iff, Prod.mk.injEq] at hf
      obtain ⟨fd, hfd, rfl, hs, _⟩ := hf
      rw [Array.getElem?_toList] at hfd
      have hin := t13 fs rfl fd (by simpa using Array.mem_of_getElem? hfd)
      have hsz : (sizeOf fd.type).run P w = .ok n w := by
        unfold sizeOf
        cases hi' : P.info? fd.type with
        | none => rw [hi'] at hin; simp at hin
        | some inf =>
          have : P.cellsOf fd.type = inf.size := by simp [Program.cellsOf, hi']
          simp only [Sem.run_bind, run_info hi', Result.andThen]
          rw [← hs, this]
          rfl
      have hn0 : n ≠ 0 := by have := Nat.le_of_ble_eq_true hn; omega
      simp only [execOp, e, Instr.fieldAt, Sem.run_bind, run_underlying t2, Result.andThen, hfd, Instr.sureAddr, Sem.run_pure, fieldPlace, hsz, if_neg hn0, addr_add]
    · rcases cut_spec hy with ⟨ha, _, rfl, hlen⟩ | ⟨ha, hg⟩
      · refine ⟨b, off + o, .agg ((vs.toList.drop o).take n).toArray, rfl, fun j u hj => ?_, ⟨_, rfl, by simpa using (hl.drop o).take n, fun u hu => ?_⟩⟩
        · simp only [Value.cells, List.getElem?_toArray, List.getElem?_take, List.getElem?_drop, Array.getElem?_toList] at hj
          split at hj
          · have := hm (o + j) u hj
            rwa [← Nat.add_assoc] at this
          · cases hj
        · exact hone u (List.mem_of_mem_drop (List.mem_of_mem_take (i := n) (l := vs.toList.drop o) (by simpa using hu)))
      · obtain ⟨u, hu, hr⟩ := hl.get hg
        rw [Array.getElem?_toList] at hu
        have h1c := hone u (by simpa using Array.mem_of_getElem? hu)
        have hc : u.cells = #[u] := by cases u <;> first | rfl | cases h1c
        refine ⟨b, off + o, u, rfl, fun j u' hj => ?_, hr⟩
        rw [hc] at hj
        cases j with
        | zero => simp at hj; subst hj; exact hm o u hu
        | succ j => simp at hj) k
theorem A.field {T : TypeId} {x : Operand} {f o n : Nat} {ag : Bool} {ti : TI} {cs : List AV} {y : AV} (hT : ty? P T = some ti) (hx : ev? s x = some (.agg cs)) (hf : ti.fields[f]? = some (o, n, ag)) (hk : ti.kind = .struct)
    (hy : cut ag n o cs = some y) (k : AOps P all draw K rest (.pure :: acc) ((d, y) :: s) σ) : AOps P all draw K (⟨some d, .field T x f, ty, pos, af, none⟩ :: rest) acc s σ :=
  A.step rfl (tpure fun g w a ho => by
    have h1 := op1 hx (by simp [Op.operands]) ho
    obtain ⟨vs, e, hl, hone⟩ := h1
    obtain ⟨info, dd, z, t1, t2, t3, t4, t5, t6, t7, t8, t9, t10, t11, t12, t13⟩ := (ty_ok hT).ex
    have hd : ∃ fs, dd = .struct fs := by rw [hk] at t3; cases dd <;> first | exact ⟨_, rfl⟩ | cases t3
    obtain ⟨fs, rfl⟩ := hd
    rw [← t11] at hf
    simp only [fieldsOf, List.getElem?_map, Option.map_eq_some_iff, Prod.mk.injEq] at hf
    obtain ⟨fd, hfd, rfl, hs, hag⟩ := hf
    rw [Array.getElem?_toList] at hfd
    have hin := t13 fs rfl fd (by simpa using Array.mem_of_getElem? hfd)
    have hsz : (sizeOf fd.type).run P w = .ok n w := by
      unfold sizeOf
      cases hi' : P.info? fd.type with
      | none => rw [hi'] at hin; simp at hin
      | some inf =>
        have : P.cellsOf fd.type = inf.size := by simp [Program.cellsOf, hi']
        simp only [Sem.run_bind, run_info hi', Result.andThen]
        rw [← hs, this]
        rfl
    have hagg : (isAgg fd.type).run P w = .ok ag w := by
      cases hu : P.underlying fd.type with
      | none => rw [hu] at hin; simp at hin
      | some dd' =>
        rw [hu] at hag
        simp only [Option.map_some, Option.getD_some] at hag
        unfold isAgg
        simp only [Sem.run_bind, run_underlying hu, Result.andThen]
        rw [← hag]
        cases dd' <;> rfl
    rcases cut_spec hy with ⟨ha, _, rfl, hlen⟩ | ⟨ha, hg⟩
    · refine ⟨.agg (vs.extract fd.offset (fd.offset + n)), ?_, ?_⟩
      · simp only [execOp, e, Instr.field, Sem.run_bind, run_underlying t2, Result.andThen, hfd, asAgg, Sem.run_pure, part, hagg, ha, if_true, hsz]
      · have he : (vs.extract fd.offset (fd.offset + n)).toList = (vs.toList.drop fd.offset).take n := by
          rw [Array.toList_extract, List.extract_eq_take_drop, Nat.add_sub_cancel_left]
        exact ⟨_, rfl, by rw [he]; exact (hl.drop _).take n, fun u hu => hone u (by rw [he] at hu; exact List.mem_of_mem_drop (List.mem_of_mem_take hu))⟩
    · obtain ⟨u, hu, hr⟩ := hl.get hg
      rw [Array.getElem?_toList] at hu
      refine ⟨u, ?_, hr⟩
      simp only [execOp, e, Instr.field, Sem.run_bind, run_underlying t2, Result.andThen, hfd, asAgg, Sem.run_pure, part, hagg, ha, Bool.false_eq_true, if_false, hu]) k
theorem A.len {T : TypeId} {x : Operand} {xs : List AV} {tk : Tk} {n : Int} {ti : TI} (hT : ty? P T = some ti) (hk : ti.kind = .slice) (hx : ev? s x = some (.slice xs tk)) (hn : (xs.length : Int) = n)
    (k : AOps P all draw K rest (.pure :: acc) ((d, .int .i64 n) :: s) σ) : AOps P all draw K (⟨some d, .call ⟨.builtin .len, #[x], #[T]⟩, ty, pos, af, none⟩ :: rest) acc s σ :=
  A.step rfl (tpure fun g w a ho => by
    have h1 := op1 hx (by simp [Op.operands, Call.operands]) ho
    obtain ⟨p, cap, sz, Vs, e, h2, h3, h4, h5, h6⟩ := h1
    refine ⟨.int .i64 xs.length, ?_, by rw [hn]; rfl⟩
    obtain ⟨info, dd, z, t1, t2, t3, _⟩ := (ty_ok hT).ex
    have hd : ∃ e, dd = .slice e := by rw [hk] at t3; cases dd <;> first | exact ⟨_, rfl⟩ | cases t3
    obtain ⟨el, rfl⟩ := hd
    simp [execOp, resolve, invoke, builtin, Builtin.len_, e, run_underlying t2, goInt, Result.andThen, h5.length]) k
theorem A.lens {T : TypeId} {x : Operand} {xs : List UInt8} {n : Int} {ti : TI} (hT : ty? P T = some ti) (hk : ti.kind = .string) (hx : ev? s x = some (.str xs)) (hn : (xs.length : Int) = n)
    (k : AOps P all draw K rest (.pure :: acc) ((d, .int .i64 n) :: s) σ) : AOps P all draw K (⟨some d, .call ⟨.builtin .len, #[x], #[T]⟩, ty, pos, af, none⟩ :: rest) acc s σ :=
  A.step rfl (tpure fun g w a ho => by
    have h1 := op1 hx (by simp [Op.operands, Call.operands]) ho
    have e : a.eval x = .string ⟨xs.toArray⟩ := h1
    refine ⟨.int .i64 xs.length, ?_, by rw [hn]; rfl⟩
    obtain ⟨info, dd, z, t1, t2, t3, _⟩ := (ty_ok hT).ex
    have hd : dd = .string := by rw [hk] at t3; cases dd <;> first | rfl | cases t3
    subst hd
    have hsz : (⟨xs.toArray⟩ : ByteArray).size = xs.length := by simp [ByteArray.size]
    simp [execOp, resolve, invoke, builtin, Builtin.len_, e, run_underlying t2, goInt, Result.andThen, hsz]) k
theorem index_run {T : TypeId} {x i : Operand} {xs : List AV} {tk : Tk} {ik : IntKind} {n : Int} {j : Nat} {y : AV} {ti te : TI} (hT : ty? P T = some ti) (hk : ti.kind = .slice) (hE : ty? P ti.elem = some te)
    (hj : n = (j : Int)) (hy : xs[j]? = some y) (hf : fits te.agg te.size y = true) {g : Gh} {w : World} {a : Act} (h1 : Rep g w (.slice xs tk) (a.eval x)) (h2 : a.eval i = .int ik n) :
    ∃ v, (execOp a.eval ⟨some d, .indexAddr T x i, ty, pos, af, none⟩).run P w = .ok (.value v) w ∧ Rep g w (.rptr y) v := by
    obtain ⟨p, cap, sz, Vs, e, c1, c2, c3, hl, c5, c6⟩ := h1
    obtain ⟨V, hV, hr⟩ := hl.get hy
    have hjl : j < Vs.length := (List.getElem?_eq_some_iff.1 hV).1
    cases p with
    | none => have := (c5 rfl).1; subst this; simp at hjl
    | some q =>
      obtain ⟨hq, hm⟩ := c6 q rfl
      obtain ⟨m1, m2⟩ := hm j V hV
      obtain ⟨f1, _⟩ := fits_spec hf hr
      obtain ⟨info, dd, z, t1, t2, t3, t4, _⟩ := (ty_ok hT).ex
      have hd : ∃ e, dd = .slice e := by rw [hk] at t3; cases dd <;> first | exact ⟨_, rfl⟩ | cases t3
      obtain ⟨el, rfl⟩ := hd
      have hel : el = ti.elem := t4
      subst hel
      obtain ⟨qb, qo, qs⟩ := q
      cases (show qs = none from hq.resolve_right (fun e => by rw [e] at hjl; simp at hjl))
      refine ⟨.pointer (some ⟨qb, qo + j * sz, none⟩), ?_, ⟨qb, qo + j * sz, V, rfl, m2, hr⟩⟩
      rw [← m1, f1]
      subst hj
      simp [execOp, Instr.indexAt, e, h2, asIntOf, run_underlying t2, Result.andThen, run_sizeOf' hE, hjl, addr_add]
theorem A.index_r {T : TypeId} {x i : Operand} {xs : List AV} {tk : Tk} {ik : IntKind} {n : Int} {j : Nat} {y : AV} {ti te : TI} (hT : ty? P T = some ti) (hk : ti.kind = .slice) (hE : ty? P ti.elem = some te)
    (hx : ev? s x = some (.slice xs tk)) (hi : ev? s i = some (.int ik n)) (hj : n = (j : Int)) (hy : xs[j]? = some y) (hf : fits te.agg te.size y = true)
    (k : AOps P all draw K rest (.pure :: acc) ((d, .rptr y) :: s) σ) : AOps P all draw K (⟨some d, .indexAddr T x i, ty, pos, af, none⟩ :: rest) acc s σ :=
  A.step rfl (tpure fun g w a ho => by
    have h1 := op1 hx (by simp [Op.operands]) ho
    have h2 : a.eval i = .int ik n := op1 hi (by simp [Op.operands]) ho
    exact index_run hT hk hE hj hy hf h1 h2) k
theorem A.index_s {T : TypeId} {x i : Operand} {xs : List UInt8} {ik : IntKind} {n : Int} {j : Nat} {y : UInt8} {ti : TI} (hT : ty? P T = some ti) (hk : ti.kind = .string)
    (hx : ev? s x = some (.str xs)) (hi : ev? s i = some (.int ik n)) (hj : n = (j : Int)) (hy : xs[j]? = some y)
    (k : AOps P all draw K rest (.pure :: acc) ((d, .int .u8 (y.toNat : Int)) :: s) σ) : AOps P all draw K (⟨some d, .index T x i, ty, pos, af, none⟩ :: rest) acc s σ :=
  A.step rfl (tpure fun g w a ho => by
    have h1 : a.eval x = .string ⟨xs.toArray⟩ := op1 hx (by simp [Op.operands]) ho
    have h2 : a.eval i = .int ik n := op1 hi (by simp [Op.operands]) ho
    obtain ⟨info, dd, z, t1, t2, t3, t4, _⟩ := (ty_ok hT).ex
    have hd : dd = .string := by rw [hk] at t3; cases dd <;> first | rfl | cases t3
    subst hd
    refine ⟨.int .u8 (y.toNat : Int), ?_, rfl⟩
    subst hj
    have hb : (⟨xs.toArray⟩ : ByteArray)[j]? = some y := by
      have hlt := (List.getElem?_eq_some_iff.1 hy).1
      rw [getElem?_def]
      have hs : j < (⟨xs.toArray⟩ : ByteArray).size := by simpa [ByteArray.size] using hlt
      rw [dif_pos hs]
      congr 1
      exact (List.getElem?_eq_some_iff.1 hy).2
    simp [execOp, Instr.index, h1, h2, asIntOf, run_underlying t2, Result.andThen, hb]) k
end rules
end Go.Av
set_option linter.unusedVariables false
namespace Go.Av
open Go
set_option linter.unusedSectionVars false
variable [Globals]
theorem setRow_eq_rowW {w : World} {b : Nat} {cur : Array Value} {T : TypeId} (h : w.heap[b]? = some (.cells cur T (0, 0))) (vals : Array Value) : w.setRow b vals = rowW w b vals T := by
  unfold World.setRow rowW
  congr 1
  apply Array.ext_getElem?
  intro i
  rw [Array.getElem?_modify, Array.getElem?_setIfInBounds]
  by_cases e : b = i
  · subst e
    have hlt : b < w.heap.size := (Array.getElem?_eq_some_iff.1 h).1
    have h2 := h
    rw [Array.getElem?_eq_getElem hlt] at h2
    have h3 := Option.some.inj h2
    simp [hlt, h3]
  · simp [e]
structure Stored (w w' : World) (b o : Nat) (vs : List Value) : Prop where
  size : w'.heap.size = w.heap.size
  os : w'.os = w.os
  tape : w'.tape = w.tape
  output : w'.output = w.output
  block : ∀ c, c ≠ b → w'.heap[c]? = w.heap[c]?
  here : ∀ (j : Nat) (v : Value), vs[j]? = some v → w'.cell? ⟨b, o + j, none⟩ = some v
  there : ∀ p, p < o ∨ o + vs.length ≤ p → w'.cell? ⟨b, p, none⟩ = w.cell? ⟨b, p, none⟩
  frozen : ∀ p, w'.frozen? ⟨b, p, none⟩ = w.frozen? ⟨b, p, none⟩
theorem setCell_heap_other (w : World) (a : Addr) (v : Value) {c : Nat} (h : c ≠ a.block) : (w.setCell a v).heap[c]? = w.heap[c]? := by
  simp only [World.setCell, Array.getElem?_modify]
  rw [if_neg (Ne.symm h)]
theorem run_stored {P : Program} (b : Nat) : ∀ (vs : List Value) (i o : Nat) (w : World), (∀ j, j < vs.length → ∃ v, w.cell? ⟨b, o + i + j, none⟩ = some v) → (∀ j, j < vs.length → w.frozen? ⟨b, o + i + j, none⟩ = false) → (∀ v ∈ vs, v.oneCell' = true) →
    ∃ w', (storeCells ⟨b, o, none⟩ vs i).run P w = .ok () w' ∧ Stored w w' b (o + i) vs
  | [], i, o, w, _, _, _ => ⟨w, rfl, rfl, rfl, rfl, rfl, fun _ _ => rfl, fun j v h => by simp at h, fun _ _ => rfl, fun _ => rfl⟩
  | v :: vs, i, o, w, hc, hf, h1 => by
    obtain ⟨v0, hv0⟩ := hc 0 (by simp)
    have hf0 := hf 0 (by simp)
    simp only [Nat.add_zero] at hv0 hf0
    have hst : (store ((⟨b, o, none⟩ : Addr).add i) v).run P w = .ok () (w.setCell ⟨b, o + i, none⟩ v) := by
      rw [addr_add, run_store P w _ v _ (h1 v (by simp)), hv0]
      simp [hf0]
    have hsame : (w.setCell ⟨b, o + i, none⟩ v).cell? ⟨b, o + i, none⟩ = some v := World.cell?_setCell_same w _ v hv0
    have hoth : ∀ p, p ≠ o + i → (w.setCell ⟨b, o + i, none⟩ v).cell? ⟨b, p, none⟩ = w.cell? ⟨b, p, none⟩ := fun p hp => World.cell?_setCell_other w _ _ v (by intro e; cases e; exact hp rfl)
    have hfro : ∀ p, (w.setCell ⟨b, o + i, none⟩ v).frozen? ⟨b, p, none⟩ = w.frozen? ⟨b, p, none⟩ := fun p => by
      simp only [World.frozen?, World.setCell, Array.getElem?_modify, if_true]
      cases hb : w.heap[b]? with
      | none => rfl
      | some x => cases x <;> rfl
    obtain ⟨w', hr, hs⟩ := run_stored (P := P) b vs (i + 1) o (w.setCell ⟨b, o + i, none⟩ v) (fun j hj => by
        rw [hoth _ (by omega)]
        have := hc (j + 1) (by simpa using hj)
        rwa [show o + i + (j + 1) = o + (i + 1) + j by omega] at this)
      (fun j hj => by
        rw [hfro]
        have := hf (j + 1) (by simpa using hj)
        rwa [show o + i + (j + 1) = o + (i + 1) + j by omega] at this) (fun u hu => h1 u (by simp [hu]))
    refine ⟨w', ?_, by rw [hs.size]; simp [World.setCell], hs.os, hs.tape, hs.output, fun c hcb => (hs.block c hcb).trans (setCell_heap_other w _ v hcb), fun j u hu => ?_, fun p hp => ?_, fun p => (hs.frozen p).trans (hfro p)⟩
    · simp only [storeCells, Sem.run_bind, hst, Result.andThen]
      exact hr
    · cases j with
      | zero =>
        simp at hu
        subst hu
        rw [Nat.add_zero, hs.there (o + i) (by omega)]
        exact hsame
      | succ j =>
        have := hs.here j u (by simpa using hu)
        rwa [show o + (i + 1) + j = o + i + (j + 1) by omega] at this
    · simp only [List.length_cons] at hp
      rw [hs.there p (by omega)]
      exact hoth p (by omega)
section rules
variable {P : Program} [Lay P] {all : Array Oper} {draw : Bool} {K : AX → Slots → St → Prop} {rest : List Oper} {acc : List Tag} {s : Slots} {σ : St}
variable {d : Tmp} {ty : TypeId} {pos : String} {af : Array Edge}
omit [Lay P] in
theorem A.box {T : TypeId} {x : Operand} {v : AV} {i : Nat} {B' : List Ob} (hx : ev? s x = some v) (hi : smallLen σ.B = some i) (hB : cellsK v (fun cs => snocK σ.B (.cells cs) some) = some B')
    (k : AOps P all draw K rest (.wb :: acc) ((d, .ptr i 0) :: s) ⟨B', σ.T⟩) : AOps P all draw K (⟨some d, .box T x, ty, pos, af, none⟩ :: rest) acc s σ :=
  A.step (t := .wb) (σ' := ⟨B', σ.T⟩) rfl ⟨rfl, fun τ => by
    intro g w a next Q hI ho hn
    have h1 := op1 hx (by simp [Op.operands]) ho
    obtain ⟨cs, h2, h3, h4⟩ := cellsK_spec hB h1
    have h5 := snocK_spec _ _ _ _ h2
    have h6 : σ.B ++ [.cells cs] = B' := Option.some.inj h5
    obtain ⟨n1, n2⟩ := new_ob hI (.cells (a.eval x).cells T) (.cells cs) (fun g' hle => ⟨_, T, push_new w _, RepL.mono hle _ _ h3, h4⟩)
    unfold Oper.wp
    simp only [execOp, Instr.box, newVar, newRow, newObj, Sem.run_bind, Result.andThen, Sem.run]
    refine hn _ _ _ n1 (h6 ▸ n2) ⟨w.heap.size, ?_, rfl⟩
    have : i = g.bx.length := by rw [hI.lenB]; exact (smallLen_spec hi).symm
    rw [this]
    simp⟩ k
theorem A.alloc {T : TypeId} {i : Nat} {B' : List Ob} {ti : TI} (hT : ty? P T = some ti) (hi : smallLen σ.B = some i) (hB : cellsK ti.zero (fun cs => snocK σ.B (.cells cs) some) = some B')
    (k : AOps P all draw K rest (.wb :: acc) ((d, .ptr i 0) :: s) ⟨B', σ.T⟩) : AOps P all draw K (⟨some d, .alloc T, ty, pos, af, none⟩ :: rest) acc s σ :=
  A.step (t := .wb) (σ' := ⟨B', σ.T⟩) rfl ⟨rfl, fun τ => by
    intro g w a next Q hI ho hn
    obtain ⟨z, hz, hz1, hz2, hz3⟩ := run_zero' hT w
    have h1 : Rep g w ti.zero z := by rw [← hz1]; exact rep_ofConst g w z
    obtain ⟨cs, h2, h3, h4⟩ := cellsK_spec hB h1
    have h6 : σ.B ++ [.cells cs] = B' := Option.some.inj (snocK_spec _ _ _ _ h2)
    obtain ⟨n1, n2⟩ := new_ob hI (.cells z.cells T) (.cells cs) (fun g' hle => ⟨_, T, push_new w _, RepL.mono hle _ _ h3, h4⟩)
    unfold Oper.wp
    simp only [execOp, Instr.alloc, hz, newVar, newRow, newObj, Sem.run_bind, Result.andThen, Sem.run]
    refine hn _ _ _ n1 (h6 ▸ n2) ⟨w.heap.size, ?_, rfl⟩
    have : i = g.bx.length := by rw [hI.lenB]; exact (smallLen_spec hi).symm
    rw [this]
    simp⟩ k
theorem A.store {T : TypeId} {x y : Operand} {i off : Nat} {v : AV} {B' : List Ob} {ti : TI} (hT : ty? P T = some ti) (hx : ev? s x = some (.ptr i off)) (hy : ev? s y = some v) (hf : fits ti.agg ti.size v = true)
    (hB : setK i σ.B (fun o k => match o with | .cells cs => cellsK v (fun vs => overK off vs cs (fun cs' => k (.cells cs'))) | _ => none) some = some B')
    (k : AOps P all draw K rest (.wi i :: acc) s ⟨B', σ.T⟩) : AOps P all draw K (⟨none, .store T x y, ty, pos, af, none⟩ :: rest) acc s σ := by
  obtain ⟨o, ho1, ho2⟩ := setK_spec _ _ _ _ _ hB
  cases o with
  | map es => cases ho2
  | iter s p => cases ho2
  | cells cs =>
    obtain ⟨h2, hvs⟩ := cellsK_pure ho2
    obtain ⟨hlen, h5⟩ := overK_spec _ _ _ _ _ h2
    have h6 : σ.B.set i (.cells (cs.take off ++ cellsL v ++ cs.drop (off + (cellsL v).length))) = B' := Option.some.inj h5
    refine A.step (t := .wi i) (v := .undef) (σ' := ⟨B', σ.T⟩) rfl ⟨.cells (cs.take off ++ cellsL v ++ cs.drop (off + (cellsL v).length)), by rw [h6], fun B τ hBi => ?_⟩ k
    intro g w a next Q hI ho hn
    obtain ⟨b, hb, e⟩ := op1 hx (by simp [Op.operands]) ho
    have h1 := op1 hy (by simp [Op.operands]) ho
    obtain ⟨vs, h2', h3, h4⟩ := cellsK_spec hvs h1
    have hve : vs = cellsL v := Option.some.inj h2'
    rw [← hve] at hlen hn
    obtain ⟨vals, T', hh, hl, hone⟩ := hI.ob i b _ hb (hBi.trans ho1)
    obtain ⟨f1, _⟩ := fits_spec hf h1
    have hvl : (a.eval y).cells.toList.length = vs.length := h3.length
    have hcl : vals.toList.length = cs.length := hl.length
    have hst := run_storeCells_at P b off T' (a.eval y).cells.toList 0 vals w hh (by rw [hvl]; simp at hcl; omega) h4
    rw [setRow_eq_rowW hh, Nat.add_zero] at hst
    have hrl : RepL g w (cs.take off ++ vs ++ cs.drop (off + vs.length)) (vals.toList.take off ++ (a.eval y).cells.toList ++ vals.toList.drop (off + (a.eval y).cells.toList.length)).toArray.toList := by
      rw [List.toList_toArray, hvl]
      exact ((hl.take off).append h3).append (hl.drop _)
    obtain ⟨n1, n2⟩ := write_ob hI hb hrl (fun u hu => by
      rw [List.toList_toArray] at hu
      simp only [List.mem_append] at hu
      rcases hu with (hu | hu) | hu
      · exact hone u (List.mem_of_mem_take hu)
      · exact h4 u hu
      · exact hone u (List.mem_of_mem_drop hu)) (T := T') (hBi.trans ho1)
    unfold Oper.wp
    simp only [execOp, e, Instr.storeAt, Instr.sureAddr, storeVar, Sem.run_bind, Sem.run_pure, Result.andThen, run_sizeOf' hT, f1, ne_eq, not_true_eq_false, if_false, hst]
    exact hn undef _ g n1 n2 trivial
end rules
end Go.Av
