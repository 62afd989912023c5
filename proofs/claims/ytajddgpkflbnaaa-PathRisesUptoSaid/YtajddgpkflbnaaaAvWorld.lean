/-
  How worlds grow under the operations: new variables, new data, stores.
-/
import Derived.Test.YtajddgpkflbnaaaAvMem
set_option linter.unusedVariables false
namespace Go.Av
open Go
set_option linter.unusedSectionVars false
variable [Globals]

section
variable {g : Gh} {σ : St} {w : World}

def pushW (w : World) (o : Obj) : World := { w with heap := w.heap.push o }

theorem push_old (w : World) (o : Obj) {b : Nat} (h : b < w.heap.size) : (pushW w o).heap[b]? = w.heap[b]? := by
  show (w.heap.push o)[b]? = _
  rw [Array.getElem?_push, if_neg (by omega)]
theorem push_new (w : World) (o : Obj) : (pushW w o).heap[w.heap.size]? = some o := by
  show (w.heap.push o)[w.heap.size]? = _
  simp
theorem push_size (w : World) (o : Obj) : (pushW w o).heap.size = w.heap.size + 1 := by simp [pushW]
theorem cell_old {w w' : World} {b o : Nat} (h : w'.heap[b]? = w.heap[b]?) : w'.cell? ⟨b, o, none⟩ = w.cell? ⟨b, o, none⟩ ∧ w'.frozen? ⟨b, o, none⟩ = w.frozen? ⟨b, o, none⟩ :=
  ⟨World.cell?_of_block (a := ⟨b, o, none⟩) h, World.frozen?_of_block (a := ⟨b, o, none⟩) h⟩

theorem Inv.bx_lt (hi : Inv g σ w) {b : Nat} (hb : b ∈ g.bx) : b < w.heap.size := by
  obtain ⟨i, hi', rfl⟩ := List.getElem_of_mem hb
  have hlt : i < σ.B.length := by rw [← hi.lenB]; exact hi'
  exact (hi.ob i _ _ (List.getElem?_eq_getElem hi') (List.getElem?_eq_getElem hlt)).lt
theorem Inv.z_lt (hi : Inv g σ w) {k : Nat} {r : Rec} (hk : g.tk[k]? = some r) {b o : Nat} (ho : r.zone b o) : b < w.heap.size := by
  obtain ⟨v, hv⟩ := (hi.tkz k r hk b o ho).2.2.1
  unfold World.cell? at hv
  cases hb : w.heap[b]? with
  | none => simp [hb] at hv
  | some x => exact (Array.getElem?_eq_some_iff.1 hb).1

/-- The heap grows by one block; the ghost's objects, tokens and data stay, or come to lie in the new block. -/
theorem grow_le (hi : Inv g σ w) (o : Obj) {g' : Gh} (hbx : ∀ (i b : Nat), g.bx[i]? = some b → g'.bx[i]? = some b) (him : ∀ b o, g.im b o → g'.im b o) (htk : g'.tk = g.tk) : Le g w g' (pushW w o) :=
  ⟨fun b o' h => ⟨him b o' h, (cell_old (push_old w o (hi.imlt b o' h))).1⟩, hbx, fun k r h => ⟨r, by rw [htk]; exact h, .inl rfl⟩⟩

/-- A new object. -/
theorem new_ob (hi : Inv g σ w) (o : Obj) (ob : Ob) (hob : ∀ (g' : Gh), Le g w g' (pushW w o) → ObOk g' (pushW w o) w.heap.size ob) :
    Ext g w ⟨g.bx ++ [w.heap.size], g.tk, g.im⟩ (pushW w o) ∧ Inv ⟨g.bx ++ [w.heap.size], g.tk, g.im⟩ ⟨σ.B ++ [ob], σ.T⟩ (pushW w o) := by
  have hle : Le g w ⟨g.bx ++ [w.heap.size], g.tk, g.im⟩ (pushW w o) := grow_le hi o (fun i b h => by
    have := (List.getElem?_eq_some_iff.1 h).1
    simpa [List.getElem?_append_left this] using h) (fun _ _ h => h) rfl
  refine ⟨⟨hle, by rw [push_size]; omega, rfl, rfl, rfl, fun b hb _ _ => push_old w o hb, fun b o' hb _ _ => cell_old (push_old w o hb), fun b o' h => .inl h, fun b hb => ?_, fun k r h b o' ho => .inr ⟨r, h, ho⟩⟩, ?_⟩
  · simp only [List.mem_append, List.mem_singleton] at hb
    rcases hb with hb | rfl
    · exact .inl hb
    · exact .inr (Nat.le_refl _)
  · refine ⟨by simp [hi.lenB], hi.lenT, fun i b ob' h1 h2 => ?_, ?_, fun b hb o' h => ?_, fun k t r hk ht => (hi.tok k t r hk ht).mono hle fun b o' ho => (cell_old (push_old w o (hi.z_lt hk ho))).1, fun k r hk b o' ho => ?_, hi.tkd, fun b o' h => by have := hi.imlt b o' h; rw [push_size]; omega, hi.gl.le hle⟩
    · by_cases e : i < g.bx.length
      · have e' : i < σ.B.length := by rw [← hi.lenB]; exact e
        simp only [List.getElem?_append_left e] at h1
        simp only [List.getElem?_append_left e'] at h2
        exact (hi.ob i b ob' h1 h2).mono hle (push_old w o (hi.bx_lt (List.mem_of_getElem? h1)))
      · have hlt := (List.getElem?_eq_some_iff.1 h1).1
        simp only [List.length_append, List.length_cons, List.length_nil] at hlt
        have e1 : i = g.bx.length := by omega
        subst e1
        simp only [List.getElem?_append_right (Nat.le_refl _), Nat.sub_self, List.getElem?_cons_zero, Option.some.injEq] at h1
        rw [hi.lenB] at h2
        simp only [List.getElem?_append_right (Nat.le_refl _), Nat.sub_self, List.getElem?_cons_zero, Option.some.injEq] at h2
        subst h1; subst h2
        exact hob _ hle
    · rw [List.nodup_append]
      refine ⟨hi.nodup, by simp, fun a ha b hb e => ?_⟩
      simp at hb
      have := hi.bx_lt ha
      omega
    · simp only [List.mem_append, List.mem_singleton] at hb
      rcases hb with hb | rfl
      · exact hi.noim b hb o' h
      · have := hi.imlt _ o' h; omega
    · obtain ⟨h1, h2, h3, h4⟩ := hi.tkz k r hk b o' ho
      have hb := hi.z_lt hk ho
      have hc := cell_old (o := o') (push_old w o hb)
      refine ⟨h1, ?_, by rw [hc.1]; exact h3, hc.2.trans h4⟩
      simp only [List.mem_append, List.mem_singleton, not_or]
      exact ⟨h2, by omega⟩

/-- New data: the first n cells of a new block are never written any more. -/
theorem new_data (hi : Inv g σ w) (cells : Array Value) (T : TypeId) (n : Nat) (hn : n ≤ cells.size) :
    Ext g w ⟨g.bx, g.tk, fun b o => g.im b o ∨ (b = w.heap.size ∧ o < n)⟩ (pushW w (.cells cells T)) ∧ Inv ⟨g.bx, g.tk, fun b o => g.im b o ∨ (b = w.heap.size ∧ o < n)⟩ σ (pushW w (.cells cells T)) := by
  have hle : Le g w ⟨g.bx, g.tk, fun b o => g.im b o ∨ (b = w.heap.size ∧ o < n)⟩ (pushW w (.cells cells T)) := grow_le hi _ (fun _ _ h => h) (fun _ _ h => .inl h) rfl
  refine ⟨⟨hle, by rw [push_size]; omega, rfl, rfl, rfl, fun b hb _ _ => push_old w _ hb, fun b o' hb _ _ => cell_old (push_old w _ hb), fun b o' h => ?_, fun b hb => .inl hb, fun k r h b o' ho => .inr ⟨r, h, ho⟩⟩, ?_⟩
  · rcases h with h | ⟨rfl, _⟩
    · exact .inl h
    · exact .inr (.inl (Nat.le_refl _))
  · refine ⟨hi.lenB, hi.lenT, fun i b ob' h1 h2 => (hi.ob i b ob' h1 h2).mono hle (push_old w _ (hi.bx_lt (List.mem_of_getElem? h1))), hi.nodup, fun b hb o' h => ?_, fun k t r hk ht => (hi.tok k t r hk ht).mono hle fun b o' ho => (cell_old (push_old w _ (hi.z_lt hk ho))).1, fun k r hk b o' ho => ?_, hi.tkd, fun b o' h => ?_, hi.gl.le hle⟩
    · rcases h with h | ⟨rfl, _⟩
      · exact hi.noim b hb o' h
      · have := hi.bx_lt hb; omega
    · obtain ⟨h1, h2, h3, h4⟩ := hi.tkz k r hk b o' ho
      have hb := hi.z_lt hk ho
      have hc := cell_old (o := o') (push_old w (.cells cells T) hb)
      refine ⟨fun h => ?_, h2, by rw [hc.1]; exact h3, hc.2.trans h4⟩
      rcases h with h | ⟨rfl, _⟩
      · exact h1 h
      · omega
    · rw [push_size]
      rcases h with h | ⟨rfl, _⟩
      · have := hi.imlt b o' h; omega
      · omega

/-- The cells of the new data read as they were laid. -/
theorem new_data_cell (w : World) (cells : Array Value) (T : TypeId) (o : Nat) : (pushW w (.cells cells T)).cell? ⟨w.heap.size, o, none⟩ = cells[o]? := by
  unfold World.cell?
  rw [push_new]
  simp
theorem new_data_frozen (w : World) (cells : Array Value) (T : TypeId) (o : Nat) : (pushW w (.cells cells T)).frozen? ⟨w.heap.size, o, none⟩ = false := by
  unfold World.frozen?
  rw [push_new]
  simp

/-- Block b, whole, is written anew: cells v. -/
def rowW (w : World) (b : Nat) (vals : Array Value) (T : TypeId) : World := { w with heap := w.heap.setIfInBounds b (.cells vals T (0, 0)) }

theorem row_same (w : World) {b : Nat} (h : b < w.heap.size) (vals : Array Value) (T : TypeId) : (rowW w b vals T).heap[b]? = some (.cells vals T (0, 0)) := by
  show (w.heap.setIfInBounds b _)[b]? = _
  rw [Array.getElem?_setIfInBounds_self_of_lt h]
theorem row_other (w : World) {b c : Nat} (h : c ≠ b) (vals : Array Value) (T : TypeId) : (rowW w b vals T).heap[c]? = w.heap[c]? := by
  show (w.heap.setIfInBounds b _)[c]? = _
  rw [Array.getElem?_setIfInBounds_ne (Ne.symm h)]

/-- A variable (an object of cells) is written anew. -/
theorem write_ob (hi : Inv g σ w) {i b : Nat} (hb : g.bx[i]? = some b) {vals : Array Value} {T : TypeId} {cs : List AV} (hcs : RepL g w cs vals.toList) (h1 : ∀ u ∈ vals.toList, u.oneCell' = true) {cs0 : List AV} (hob : σ.B[i]? = some (.cells cs0)) :
    Ext g w g (rowW w b vals T) ∧ Inv g ⟨σ.B.set i (.cells cs), σ.T⟩ (rowW w b vals T) := by
  have hlt := hi.bx_lt (List.mem_of_getElem? hb)
  have hbm := List.mem_of_getElem? hb
  have hle : Le g w g (rowW w b vals T) := ⟨fun c o h => by
    have hne : c ≠ b := fun e => hi.noim b hbm o (e ▸ h)
    exact ⟨h, (cell_old (row_other w hne vals T)).1⟩, fun _ _ h => h, fun k r h => ⟨r, h, .inl rfl⟩⟩
  refine ⟨⟨hle, by simp [rowW], rfl, rfl, rfl, fun c hc hn _ => row_other w (fun e => hn (by rw [e]; exact hbm)) vals T, fun c o hc hn _ => cell_old (row_other w (fun e => hn (by rw [e]; exact hbm)) vals T), fun _ _ h => .inl h, fun _ h => .inl h, fun k r h c o ho => .inr ⟨r, h, ho⟩⟩, ?_⟩
  refine ⟨by simp [hi.lenB], hi.lenT, fun j c ob h2 h3 => ?_, hi.nodup, hi.noim, fun k t r hk ht => (hi.tok k t r hk ht).mono hle fun c o ho => (cell_old (row_other w (fun e => (hi.tkz k r hk c o ho).2.1 (by rw [e]; exact hbm)) vals T)).1, fun k r hk c o ho => ?_, hi.tkd, fun c o h => by simpa [rowW] using hi.imlt c o h, hi.gl.le hle⟩
  · by_cases e : j = i
    · subst e
      rw [hb] at h2
      cases h2
      have hj : j < σ.B.length := (List.getElem?_eq_some_iff.1 hob).1
      simp only [List.getElem?_set_self hj, Option.some.injEq] at h3
      subst h3
      exact ⟨vals, T, row_same w hlt vals T, RepL.mono hle _ _ hcs, h1⟩
    · simp only [List.getElem?_set_ne (Ne.symm e)] at h3
      have hne : c ≠ b := by
        intro ec
        subst ec
        have := (List.getElem?_inj (List.getElem?_eq_some_iff.1 h2).1 hi.nodup).1 (h2.trans hb.symm)
        exact e this
      exact (hi.ob j c ob h2 h3).mono hle (row_other w hne vals T)
  · obtain ⟨h2, h3, h4, h5⟩ := hi.tkz k r hk c o ho
    have hne : c ≠ b := fun e => h3 (e ▸ hbm)
    have hc := cell_old (o := o) (row_other w hne vals T)
    exact ⟨h2, h3, by rw [hc.1]; exact h4, hc.2.trans h5⟩

/-- The objects written anew, whatever the tokens. -/
theorem inv_setT {B : List Ob} {T T' : List Tok} (h : T = T') (hi : Inv g ⟨B, T⟩ w) : Inv g ⟨B, T'⟩ w := h ▸ hi
end
end Go.Av
