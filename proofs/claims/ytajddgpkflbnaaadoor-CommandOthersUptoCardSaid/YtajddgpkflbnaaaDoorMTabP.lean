/-
  Plain laws of tables: which may be; what is found behind a row that is put, and behind a cut.
-/
import Derived.Test.YtajddgpkflbnaaaDoorMSize
import Derived.Test.YtajddgpkflbnaaaDoorMMay2
namespace Go.Proofs.YtajddgpkflbnaaaDoor
open Go Go.Av
set_option maxRecDepth 100000
set_option linter.unusedVariables false
set_option linter.unusedSimpArgs false

theorem in_of {l : List Tbl} (h : tabSize l ≤ 1048576) : TblsIn 1048576 l := by
  have hf := fine_of (Nat.le_refl (tabSize l))
  refine ⟨Nat.le_trans hf.len h, fun t ht => ?_, fun t ht => Nat.le_trans (hf.rows t ht) h, fun t ht r hr => ?_, fun t ht r hr m hm => ?_⟩
  · have h1 := sumSize_mem (size := Tbl.size) ht
    have h4 : t.size = t.name.length + sumSize Row.size t.rows + 2 := rfl
    unfold tabSize at h; omega
  · have h1 := sumSize_mem (size := Tbl.size) ht
    have h2 := sumSize_mem (size := Row.size) hr
    have h4 : t.size = t.name.length + sumSize Row.size t.rows + 2 := rfl
    have h5 : r.size = r.key.length + r.typ.length + sumSize Mem.size r.cols + 4 := rfl
    have h6 := hf.cols t ht r hr
    unfold tabSize at h h6
    exact ⟨by omega, by omega, by omega⟩
  · have h1 := sumSize_mem (size := Tbl.size) ht
    have h2 := sumSize_mem (size := Row.size) hr
    have h3 := sumSize_mem (size := Mem.size) hm
    have h4 : t.size = t.name.length + sumSize Row.size t.rows + 2 := rfl
    have h5 : r.size = r.key.length + r.typ.length + sumSize Mem.size r.cols + 4 := rfl
    have h6 : m.size = m.name.length + 2 + m.v.size := rfl
    unfold tabSize at h
    exact ⟨by omega, by omega⟩

section
variable (gv st : Val → Bool)
theorem rowsOk_iff : ∀ (l : List Row) (ks : List Str), rowsOk gv st l ks = true ↔ (∀ r ∈ l, r.key ∉ ks) ∧ (l.map Row.key).Nodup ∧ ∀ r ∈ l, rowOk gv st r = true
  | [], ks => by simp [rowsOk]
  | r :: l, ks => by
    rw [rowsOk]
    simp only [Bool.and_eq_true, Bool.not_eq_true', decide_eq_false_iff_not, rowsOk_iff l, List.mem_append, List.mem_singleton, not_or, List.map_cons, List.nodup_cons, List.mem_map, not_exists, not_and, List.mem_cons, forall_eq_or_imp]
    constructor
    · rintro ⟨h1, h2, h3, h4, h5⟩
      exact ⟨⟨h1, fun x hx => (h3 x hx).1⟩, ⟨fun x hx => (h3 x hx).2.1, h4⟩, h2, h5⟩
    · rintro ⟨⟨h1, h2⟩, ⟨h3, h4⟩, h5, h6⟩
      exact ⟨h1, h5, fun x hx => ⟨h2 x hx, h3 x hx, by simp⟩, h4, h6⟩
theorem tblsOk_iff : ∀ (l : List Tbl) (ns : List Str), tblsOk gv st l ns = true ↔ (∀ t ∈ l, t.name ∉ ns) ∧ (l.map Tbl.name).Nodup ∧ ∀ t ∈ l, good t.name = true ∧ rowsOk gv st t.rows [] = true
  | [], ns => by simp [tblsOk]
  | t :: l, ns => by
    rw [tblsOk]
    simp only [Bool.and_eq_true, Bool.not_eq_true', decide_eq_false_iff_not, tblsOk_iff l, List.mem_append, List.mem_singleton, not_or, List.map_cons, List.nodup_cons, List.mem_map, not_exists, not_and, List.mem_cons, forall_eq_or_imp]
    constructor
    · rintro ⟨h1, h2, h3, h4, h5, h6⟩
      exact ⟨⟨h1, fun x hx => (h4 x hx).1⟩, ⟨fun x hx => (h4 x hx).2.1, h5⟩, ⟨h2, h3⟩, h6⟩
    · rintro ⟨⟨h1, h2⟩, ⟨h3, h4⟩, ⟨h5, h6⟩, h7⟩
      exact ⟨h1, h5, h6, fun x hx => ⟨h2 x hx, h3 x hx, by simp⟩, h4, h7⟩
end

/-! The first of a list that is as is asked. -/
theorem fidx_none {α : Type} {p : α → Bool} : ∀ {l : List α}, fidx p l = none → ∀ x ∈ l, p x = false
  | [], _, x, hx => by simp at hx
  | y :: l, h, x, hx => by
    rw [fidx] at h
    by_cases c : p y = true
    · rw [if_pos c] at h; cases h
    · rw [if_neg c] at h
      have h' : fidx p l = none := by cases e : fidx p l <;> simp_all
      rcases List.mem_cons.1 hx with rfl | hx
      · simpa using c
      · exact fidx_none h' x hx
theorem fidx_some {α : Type} {p : α → Bool} {l : List α} {i : Nat} (h : fidx p l = some i) : ∃ hi : i < l.length, p l[i] = true := by
  rcases fidx_spec p l 0 with ⟨_, h2⟩ | ⟨j, hj, _, h2, h3⟩
  · rw [h2] at h; cases h
  · rw [h2] at h; cases h; exact ⟨hj, h3⟩
theorem map_set_same {α β : Type} {f : α → β} : ∀ {l : List α} {i : Nat} {y : α}, (∀ h : i < l.length, f y = f l[i]) → (l.set i y).map f = l.map f
  | [], i, y, _ => by simp
  | x :: l, 0, y, h => by simp [h (by simp)]
  | x :: l, i + 1, y, h => by
    simp only [List.set_cons_succ, List.map_cons]
    rw [map_set_same (l := l) (fun hi => h (Nat.succ_lt_succ hi))]
theorem mem_set {α : Type} : ∀ {l : List α} {i : Nat} {y x : α}, x ∈ l.set i y → x ∈ l ∨ x = y := fun h => List.mem_or_eq_of_mem_set h

theorem cutRows_sub (rows : List Row) (key : Str) : (cutRows rows key).Sublist rows := by
  unfold cutRows
  split
  · exact List.Sublist.refl _
  · rename_i k hk
    have h1 : (rows.drop (k + 1)).Sublist (rows.drop k) := by
      have : rows.drop (k + 1) = (rows.drop k).drop 1 := by rw [List.drop_drop]
      rw [this]; exact List.drop_sublist _ _
    have h2 := h1.append_left (rows.take k)
    rwa [List.take_append_drop] at h2
section
variable {gv st : Val → Bool}
theorem cutRows_ok {rows : List Row} {key : Str} (h : rowsOk gv st rows [] = true) : rowsOk gv st (cutRows rows key) [] = true := by
  rw [rowsOk_iff] at h ⊢
  have hs := cutRows_sub rows key
  exact ⟨fun _ _ => by simp, (hs.map Row.key).nodup h.2.1, fun r hr => h.2.2 r (hs.subset hr)⟩
theorem cutG_ok {l : List Tbl} {name key : Str} (h : tblsOk gv st l [] = true) : tblsOk gv st (cutG l name key) [] = true := by
  unfold cutG
  split
  · exact h
  · rename_i i hi
    obtain ⟨hil, hp⟩ := fidx_some hi
    rw [modAt_eq hil]
    rw [tblsOk_iff] at h ⊢
    refine ⟨fun _ _ => by simp, ?_, fun t ht => ?_⟩
    · rw [map_set_same (f := Tbl.name) (fun _ => rfl)]; exact h.2.1
    · rcases mem_set ht with ht | rfl
      · exact h.2.2 t ht
      · have := h.2.2 _ (List.getElem_mem hil)
        exact ⟨this.1, cutRows_ok this.2⟩
theorem putRows_ok {rows : List Row} {r : Row} (h : rowsOk gv st rows [] = true) : rowsOk gv st (putRows rows r) [] = rowOk gv st r := by
  rw [Bool.eq_iff_iff]
  rw [rowsOk_iff] at h ⊢
  unfold putRows
  split
  · rename_i hn
    have hn' := fidx_none hn
    constructor
    · exact fun h2 => h2.2.2 r (by simp)
    · intro hr
      refine ⟨fun _ _ => by simp, ?_, fun x hx => ?_⟩
      · rw [List.map_append, List.nodup_append]
        refine ⟨h.2.1, by simp, fun a ha b hb => ?_⟩
        obtain ⟨x, hx, rfl⟩ := List.mem_map.1 ha
        have hb' : b = r.key := by simpa using hb
        subst hb'
        have := hn' x hx
        simpa using this
      · rcases List.mem_append.1 hx with hx | hx
        · exact h.2.2 x hx
        · have : x = r := by simpa using hx
          rw [this]; exact hr
  · rename_i k hk
    obtain ⟨hkl, hp⟩ := fidx_some hk
    constructor
    · exact fun h2 => h2.2.2 r (List.mem_set hkl _)
    · intro hr
      refine ⟨fun _ _ => by simp, ?_, fun x hx => ?_⟩
      · rw [map_set_same (f := Row.key) (fun _ => by simpa using (beq_iff_eq.1 hp).symm)]; exact h.2.1
      · rcases mem_set hx with hx | rfl
        · exact h.2.2 x hx
        · exact hr
theorem alone_ok (name : Str) (r : Row) : tblsOk gv st [⟨name, [r]⟩] [] = (good name && rowOk gv st r) := by
  rw [Bool.eq_iff_iff, tblsOk_iff]
  simp [rowsOk_iff]
theorem putG_ok {l : List Tbl} {name : Str} {r : Row} (h : tblsOk gv st l [] = true) : tblsOk gv st (putG l name r) [] = tblsOk gv st [⟨name, [r]⟩] [] := by
  rw [alone_ok]
  unfold putG
  split
  · rename_i hn
    have hn' := fidx_none hn
    rw [Bool.eq_iff_iff]
    rw [tblsOk_iff] at h ⊢
    rw [Bool.and_eq_true]
    constructor
    · intro h2
      have := h2.2.2 ⟨name, [r]⟩ (by simp)
      rw [rowsOk_iff] at this
      exact ⟨this.1, this.2.2.2 r (by simp)⟩
    · rintro ⟨hg, hr⟩
      refine ⟨fun _ _ => by simp, ?_, fun x hx => ?_⟩
      · rw [List.map_append, List.nodup_append]
        refine ⟨h.2.1, by simp, fun a ha b hb => ?_⟩
        obtain ⟨x, hx, rfl⟩ := List.mem_map.1 ha
        have hb' : b = name := by simpa using hb
        subst hb'
        have := hn' x hx
        simpa using this
      · rcases List.mem_append.1 hx with hx | hx
        · exact h.2.2 x hx
        · have : x = ⟨name, [r]⟩ := by simpa using hx
          rw [this]
          exact ⟨hg, by rw [rowsOk_iff]; simp [hr]⟩
  · rename_i i hi
    obtain ⟨hil, hp⟩ := fidx_some hi
    have hname : l[i].name = name := beq_iff_eq.1 hp
    have hgn := ((tblsOk_iff gv st l []).1 h).2.2 _ (List.getElem_mem hil)
    rw [← hname, hgn.1, Bool.true_and, modAt_eq hil, ← putRows_ok hgn.2 (r := r), Bool.eq_iff_iff]
    rw [tblsOk_iff] at h ⊢
    constructor
    · exact fun h2 => (h2.2.2 _ (List.mem_set hil _)).2
    · intro hr
      refine ⟨fun _ _ => by simp, ?_, fun t ht => ?_⟩
      · rw [map_set_same (f := Tbl.name) (fun _ => rfl)]; exact h.2.1
      · rcases mem_set ht with ht | rfl
        · exact h.2.2 t ht
        · exact ⟨hgn.1, hr⟩
end
end Go.Proofs.YtajddgpkflbnaaaDoor
