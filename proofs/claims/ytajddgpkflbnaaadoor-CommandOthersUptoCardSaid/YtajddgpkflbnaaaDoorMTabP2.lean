/-
  Plain laws of tables: what is found behind a row that is put, and behind a cut.
-/
import Derived.Test.YtajddgpkflbnaaaDoorMTabP
import Derived.Test.YtajddgpkflbnaaaDoorMFind
namespace Go.Proofs.YtajddgpkflbnaaaDoor
open Go Go.Av
set_option maxRecDepth 100000
set_option linter.unusedVariables false
set_option linter.unusedSimpArgs false

theorem find_none {α : Type} {p : α → Bool} {l : List α} (h : fidx p l = none) : l.find? p = none := List.find?_eq_none.2 fun x hx => by rw [fidx_none h x hx]; simp
theorem find_hit {α : Type} {p : α → Bool} : ∀ {l : List α} {i : Nat} {y : α}, fidx p l = some i → p y = true → (l.set i y).find? p = some y
  | [], _, _, h, _ => by cases h
  | x :: l, i, y, h, hy => by
    rw [fidx] at h
    by_cases c : p x = true
    · rw [if_pos c] at h; cases h
      simp [List.find?, hy]
    · rw [if_neg c] at h
      cases e : fidx p l with
      | none => rw [e] at h; cases h
      | some j =>
        rw [e] at h; cases h
        rw [List.set_cons_succ, List.find?, show p x = false by simpa using c]
        exact find_hit e hy
theorem find_at {α : Type} {p : α → Bool} {l : List α} {i : Nat} (h : fidx p l = some i) (hi : i < l.length) (hp : p l[i] = true) : l.find? p = some l[i] := by
  have := find_hit (y := l[i]) h hp
  rwa [List.set_getElem_self] at this
theorem find_miss {α : Type} {p : α → Bool} : ∀ {l : List α} {i : Nat} {y : α}, (∀ hi : i < l.length, p l[i] = false) → p y = false → (l.set i y).find? p = l.find? p
  | [], _, _, _, _ => by simp
  | x :: l, 0, y, h, hy => by
    have hx : p x = false := h (by simp)
    rw [List.set_cons_zero, List.find?, List.find?, hy, hx]
  | x :: l, i + 1, y, h, hy => by
    rw [List.set_cons_succ, List.find?, List.find?]
    rw [find_miss (l := l) (i := i) (fun hi => h (Nat.succ_lt_succ hi)) hy]
theorem find_cut {α : Type} {p : α → Bool} {l : List α} {k : Nat} (hk : k < l.length) (h : p l[k] = false) : (l.take k ++ l.drop (k + 1)).find? p = l.find? p := by
  have e : l = l.take k ++ l[k] :: l.drop (k + 1) := by rw [← List.drop_eq_getElem_cons hk, List.take_append_drop]
  conv => rhs; rw [e]
  rw [List.find?_append, List.find?_append]
  congr 1
  rw [List.find?, h]

theorem find_put (l : List Tbl) (name : Str) (r : Row) : findG (putG l name r) ⟨name, r.key⟩ = gotOf r := by
  unfold findG putG
  cases e : fidx (fun t : Tbl => t.name == name) l with
  | none =>
    have h := find_none e
    rw [List.find?_append, h]
    simp
  | some i =>
    obtain ⟨hi, hp⟩ := fidx_some e
    dsimp only
    rw [modAt_eq hi, find_hit e (by simpa using hp)]
    dsimp only
    unfold putRows
    cases e2 : fidx (fun x : Row => x.key == r.key) l[i].rows with
    | none =>
      have h := find_none e2
      rw [List.find?_append, h]
      simp
    | some k =>
      rw [find_hit e2 (by simp)]
theorem find_put_other {l : List Tbl} {name : Str} {r : Row} {n : Need} (h : (n.table == name && (n.key == r.key && true)) = false) : findG (putG l name r) n = findG l n := by
  unfold findG putG
  by_cases ht : n.table = name
  · have hk : (r.key == n.key) = false := by
      rw [ht] at h
      simp only [beq_self_eq_true, Bool.true_and, Bool.and_true] at h
      rw [beq_eq_false_iff_ne] at h ⊢
      exact fun e => h e.symm
    rw [ht]
    cases e : fidx (fun t : Tbl => t.name == name) l with
    | none =>
      rw [List.find?_append, find_none e]
      simp [hk]
    | some i =>
      obtain ⟨hi, hp⟩ := fidx_some e
      dsimp only
      rw [modAt_eq hi, find_hit e (by simpa using hp), find_at e hi hp]
      dsimp only
      unfold putRows
      cases e2 : fidx (fun x : Row => x.key == r.key) l[i].rows with
      | none =>
        rw [List.find?_append]
        cases l[i].rows.find? (fun r => r.key == n.key) <;> simp [hk]
      | some k =>
        obtain ⟨hk2, hp2⟩ := fidx_some e2
        have e3 : l[i].rows[k].key = r.key := beq_iff_eq.1 hp2
        dsimp only
        rw [find_miss (p := fun r : Row => r.key == n.key) (fun _ => by first | (rw [e3]; exact hk) | (dsimp only; rw [e3]; exact hk)) hk]
  · have hn : (name == n.table) = false := by
      rw [beq_eq_false_iff_ne]; exact fun e => ht e.symm
    cases e : fidx (fun t : Tbl => t.name == name) l with
    | none =>
      rw [List.find?_append]
      cases l.find? (fun t => t.name == n.table) <;> simp [hn]
    | some i =>
      obtain ⟨hi, hp⟩ := fidx_some e
      have e3 : l[i].name = name := beq_iff_eq.1 hp
      dsimp only
      rw [modAt_eq hi, find_miss (p := fun t : Tbl => t.name == n.table) (fun _ => by first | (rw [e3]; exact hn) | (dsimp only; rw [e3]; exact hn)) (by first | (rw [e3]; exact hn) | (dsimp only; rw [e3]; exact hn))]
theorem find_cut_other {l : List Tbl} {name key : Str} {n : Need} (h : (n.table == name && (n.key == key && true)) = false) : findG (cutG l name key) n = findG l n := by
  unfold findG cutG
  cases e : fidx (fun t : Tbl => t.name == name) l with
  | none => rfl
  | some i =>
    obtain ⟨hi, hp⟩ := fidx_some e
    have e3 : l[i].name = name := beq_iff_eq.1 hp
    dsimp only
    rw [modAt_eq hi]
    by_cases ht : n.table = name
    · have hk : (key == n.key) = false := by
        rw [ht] at h
        simp only [beq_self_eq_true, Bool.true_and, Bool.and_true] at h
        rw [beq_eq_false_iff_ne] at h ⊢
        exact fun e => h e.symm
      rw [ht, find_hit e (by simpa using hp), find_at e hi hp]
      dsimp only
      unfold cutRows
      cases e2 : fidx (fun x : Row => x.key == key) l[i].rows with
      | none => rfl
      | some k =>
        obtain ⟨hk2, hp2⟩ := fidx_some e2
        have e4 : l[i].rows[k].key = key := beq_iff_eq.1 hp2
        dsimp only
        rw [find_cut (p := fun r : Row => r.key == n.key) hk2 (by first | (rw [e4]; exact hk) | (dsimp only; rw [e4]; exact hk))]
    · have hn : (name == n.table) = false := by
        rw [beq_eq_false_iff_ne]; exact fun e => ht e.symm
      rw [find_miss (p := fun t : Tbl => t.name == n.table) (fun _ => by first | (rw [e3]; exact hn) | (dsimp only; rw [e3]; exact hn)) (by first | (rw [e3]; exact hn) | (dsimp only; rw [e3]; exact hn))]
theorem find_cut_own {gv st : Val → Bool} {l : List Tbl} (name key : Str) (h : tblsOk gv st l [] = true) : findG (cutG l name key) ⟨name, key⟩ = gotNone := by
  unfold findG cutG
  cases e : fidx (fun t : Tbl => t.name == name) l with
  | none => dsimp only; rw [find_none e]
  | some i =>
    obtain ⟨hi, hp⟩ := fidx_some e
    dsimp only
    rw [modAt_eq hi, find_hit e (by simpa using hp)]
    dsimp only
    have hr := ((tblsOk_iff gv st l []).1 h).2.2 _ (List.getElem_mem hi)
    have hn := ((rowsOk_iff gv st _ []).1 hr.2).2.1
    unfold cutRows
    cases e2 : fidx (fun x : Row => x.key == key) l[i].rows with
    | none => dsimp only; rw [find_none e2]
    | some k =>
      obtain ⟨hk2, hp2⟩ := fidx_some e2
      have e4 : l[i].rows[k].key = key := beq_iff_eq.1 hp2
      dsimp only
      have : (l[i].rows.take k ++ l[i].rows.drop (k + 1)).find? (fun r => r.key == key) = none := by
        rw [List.find?_eq_none]
        intro x hx hx2
        have hx3 : x.key = key := by simpa using hx2
        have e5 : l[i].rows = l[i].rows.take k ++ l[i].rows[k] :: l[i].rows.drop (k + 1) := by rw [← List.drop_eq_getElem_cons hk2, List.take_append_drop]
        rw [e5, List.map_append, List.map_cons, List.nodup_append] at hn
        obtain ⟨h1, h2, h3⟩ := hn
        rw [List.nodup_cons] at h2
        rcases List.mem_append.1 hx with hx | hx
        · exact h3 x.key (List.mem_map.2 ⟨x, hx, rfl⟩) l[i].rows[k].key (by simp) (by rw [hx3, e4])
        · exact h2.1 (List.mem_map.2 ⟨x, hx, by rw [hx3, e4]⟩)
      rw [this]
theorem findG_cs (l : List Tbl) (n : Need) : sumSize Mem.size (findG l n).row.cols ≤ tabSize l := by
  unfold findG
  split
  · exact Nat.zero_le _
  · rename_i t ht
    split
    · exact Nat.zero_le _
    · rename_i r hr
      have h1 := cols_of (Nat.le_refl (tabSize l)) t (List.mem_of_find?_eq_some ht) r (List.mem_of_find?_eq_some hr)
      unfold gotOf
      split
      · exact Nat.zero_le _
      · exact h1
end Go.Proofs.YtajddgpkflbnaaaDoor
