/-
  How large tables are behind a command.
-/
import Derived.Test.YtajddgpkflbnaaaDoorMLawCmd
namespace Go.Proofs.YtajddgpkflbnaaaDoor
open Go Go.Av
set_option maxRecDepth 100000
set_option linter.unusedVariables false
set_option linter.unusedSimpArgs false

/-! What a command does to tables, in one of three ways. -/
theorem putRows_all {Q : Row → Prop} {rows : List Row} {r : Row} (h : ∀ x ∈ rows, Q x) (hr : Q r) : ∀ x ∈ putRows rows r, Q x := by
  unfold putRows
  split
  · intro x hx
    rcases List.mem_append.1 hx with h1 | h1
    · exact h x h1
    · rw [List.mem_singleton.1 h1]; exact hr
  · intro x hx
    rcases List.mem_or_eq_of_mem_set hx with h1 | rfl
    · exact h x h1
    · exact hr
theorem putRows_len (rows : List Row) (r : Row) : (putRows rows r).length ≤ rows.length + 1 := by
  unfold putRows; split <;> simp
theorem cutRows_all {Q : Row → Prop} {rows : List Row} {key : Str} (h : ∀ x ∈ rows, Q x) : ∀ x ∈ cutRows rows key, Q x := by
  unfold cutRows
  split
  · exact h
  · intro x hx
    rcases List.mem_append.1 hx with h1 | h1
    · exact h x (List.mem_of_mem_take h1)
    · exact h x (List.mem_of_mem_drop h1)
theorem cutRows_len (rows : List Row) (key : Str) : (cutRows rows key).length ≤ rows.length := by
  unfold cutRows; split <;> simp; omega
theorem modAt_mem {α : Type} {l : List α} {i : Nat} {f : α → α} {x : α} (h : x ∈ modAt l i f) : x ∈ l ∨ ∃ y ∈ l, x = f y := by
  unfold modAt at h
  split at h
  · rename_i y hy
    rcases List.mem_or_eq_of_mem_set h with h1 | rfl
    · exact .inl h1
    · exact .inr ⟨y, List.mem_of_getElem? hy, rfl⟩
  · exact .inl h
theorem modAt_len {α : Type} {l : List α} {i : Nat} {f : α → α} : (modAt l i f).length = l.length := by
  unfold modAt; split <;> simp
theorem putG_mem {l : List Tbl} {name : Str} {r : Row} {t : Tbl} (h : t ∈ putG l name r) : t ∈ l ∨ t.rows = [r] ∨ ∃ y ∈ l, t.rows = putRows y.rows r := by
  unfold putG at h
  split at h
  · rcases List.mem_append.1 h with h1 | h1
    · exact .inl h1
    · rw [List.mem_singleton.1 h1]; exact .inr (.inl rfl)
  · rcases modAt_mem h with h1 | ⟨y, hy, rfl⟩
    · exact .inl h1
    · exact .inr (.inr ⟨y, hy, rfl⟩)
theorem putG_len (l : List Tbl) (name : Str) (r : Row) : (putG l name r).length ≤ l.length + 1 := by
  unfold putG; split
  · simp
  · rw [modAt_len]; omega
theorem cutG_mem {l : List Tbl} {name key : Str} {t : Tbl} (h : t ∈ cutG l name key) : t ∈ l ∨ ∃ y ∈ l, t.rows = cutRows y.rows key := by
  unfold cutG at h
  split at h
  · exact .inl h
  · rcases modAt_mem h with h1 | ⟨y, hy, rfl⟩
    · exact .inl h1
    · exact .inr ⟨y, hy, rfl⟩
theorem cutG_len (l : List Tbl) (name key : Str) : (cutG l name key).length ≤ l.length := by
  unfold cutG; split
  · omega
  · rw [modAt_len]; omega
theorem cmdG_cases (l : List Tbl) (c : Cmd) : (cmdG l c).1 = l ∨ (∃ key, (cmdG l c).1 = cutG l c.table key) ∨ (∃ key, (cmdG l c).1 = putG l c.table (putRow c key (findG l ⟨c.table, key⟩))) ∨
    (∃ key n, (cmdG l c).1 = putG l c.table { (findG l ⟨c.table, key⟩).row with cols := setG (findG l ⟨c.table, key⟩).row.cols c.col (intV n) }) := by
  unfold cmdG
  split
  · exact .inl rfl
  · split
    · exact .inl rfl
    · split
      · exact .inl rfl
      · split
        · exact .inl rfl
        · split
          · exact .inr (.inr (.inl ⟨_, rfl⟩))
          · split
            · exact .inl rfl
            · split
              · exact .inr (.inl ⟨_, rfl⟩)
              · unfold addG
                dsimp only
                split
                · exact .inl rfl
                · split
                  · exact .inl rfl
                  · split
                    · exact .inl rfl
                    · exact .inr (.inr (.inr ⟨_, _, rfl⟩))
theorem find_row {Q : Row → Prop} {l : List Tbl} (h : ∀ t ∈ l, ∀ r ∈ t.rows, Q r) (h0 : Q noRow) (n : Need) : Q (findG l n).row := by
  unfold findG
  split
  · exact h0
  · rename_i t ht
    split
    · exact h0
    · rename_i r hr
      unfold gotOf
      split
      · exact h0
      · exact h t (List.mem_of_find?_eq_some ht) r (List.mem_of_find?_eq_some hr)
/-- Each row's columns: at most so many, and not larger than that. -/
def Slim (B R : Nat) (r : Row) : Prop := r.cols.length ≤ B ∧ sumSize Mem.size r.cols ≤ R
def Slims (B R : Nat) (l : List Tbl) : Prop := l.length ≤ B ∧ (∀ t ∈ l, t.rows.length ≤ B) ∧ ∀ t ∈ l, ∀ r ∈ t.rows, Slim B R r
theorem Slims.fine {B R : Nat} {l : List Tbl} (h : Slims B R l) : Fine B l := ⟨h.1, h.2.1, fun t ht r hr => (h.2.2 t ht r hr).1⟩
theorem put_slims {B R : Nat} {l : List Tbl} {name : Str} {r : Row} {a b : Nat} (h : Slims B R l) (hr : Slim (B + a + 1) (R + b) r) : Slims (B + a + 1) (R + b) (putG l name r) := by
  have up : ∀ x, Slim B R x → Slim (B + a + 1) (R + b) x := fun x hx => ⟨by have := hx.1; omega, by have := hx.2; omega⟩
  refine ⟨by have := putG_len l name r; have := h.1; omega, fun t ht => ?_, fun t ht => ?_⟩
  · rcases putG_mem ht with h1 | h1 | ⟨y, hy, h1⟩
    · have := h.2.1 t h1; omega
    · rw [h1]; simp
    · rw [h1]; have := putRows_len y.rows r; have := h.2.1 y hy; omega
  · rcases putG_mem ht with h1 | h1 | ⟨y, hy, h1⟩
    · exact fun x hx => up x (h.2.2 t h1 x hx)
    · rw [h1]; intro x hx; rw [List.mem_singleton.1 hx]; exact hr
    · rw [h1]; exact putRows_all (fun x hx => up x (h.2.2 y hy x hx)) hr
theorem cmd_slims {B R : Nat} {l : List Tbl} (h : Slims B R l) (c : Cmd) : Slims (B + c.args.length + 1) (R + (c.size + 8)) (cmdG l c).1 := by
  have up : ∀ x, Slim B R x → Slim (B + c.args.length + 1) (R + (c.size + 8)) x := fun x hx => ⟨by have := hx.1; omega, by have := hx.2; omega⟩
  have hsz : c.size = c.name.length + c.table.length + c.col.length + c.typ.length + sumSize Mem.size c.args + 5 := rfl
  have hrow : ∀ n, Slim B R (findG l n).row := fun n => find_row h.2.2 ⟨Nat.zero_le _, Nat.zero_le _⟩ n
  rcases cmdG_cases l c with e | ⟨key, e⟩ | ⟨key, e⟩ | ⟨key, n, e⟩
  · rw [e]
    exact ⟨by have := h.1; omega, fun t ht => by have := h.2.1 t ht; omega, fun t ht r hr => up r (h.2.2 t ht r hr)⟩
  · rw [e]
    refine ⟨by have := cutG_len l c.table key; have := h.1; omega, fun t ht => ?_, fun t ht => ?_⟩
    · rcases cutG_mem ht with h1 | ⟨y, hy, h1⟩
      · have := h.2.1 t h1; omega
      · rw [h1]; have := cutRows_len y.rows key; have := h.2.1 y hy; omega
    · rcases cutG_mem ht with h1 | ⟨y, hy, h1⟩
      · exact fun x hx => up x (h.2.2 t h1 x hx)
      · rw [h1]; exact cutRows_all fun x hx => up x (h.2.2 y hy x hx)
  · rw [e]
    refine put_slims h ?_
    unfold putRow
    by_cases hg : (findG l ⟨c.table, key⟩).is = true
    · rw [if_pos hg]
      have h1 := putCols_len c.args (findG l ⟨c.table, key⟩).row.cols
      have h2 := putCols_size c.args (findG l ⟨c.table, key⟩).row.cols
      have h3 := hrow ⟨c.table, key⟩
      exact ⟨by have := h3.1; dsimp only; omega, by have := h3.2; dsimp only; omega⟩
    · rw [if_neg hg]
      have h1 := putCols_len c.args []
      have h2 := putCols_size c.args []
      simp only [List.length_nil] at h1
      simp only [sumSize] at h2
      exact ⟨by dsimp only; omega, by dsimp only; omega⟩
  · rw [e]
    refine put_slims h ?_
    have h1 := setG_len (findG l ⟨c.table, key⟩).row.cols c.col (intV n)
    have h2 := setG_size (findG l ⟨c.table, key⟩).row.cols c.col (intV n)
    rw [intV_size] at h2
    have h3 := hrow ⟨c.table, key⟩
    exact ⟨by have := h3.1; dsimp only; omega, by have := h3.2; dsimp only; omega⟩
theorem slims_of {l : List Tbl} {n : Nat} (h : tabSize l ≤ n) : Slims n n l :=
  ⟨(fine_of h).len, (fine_of h).rows, fun t ht r hr => ⟨(fine_of h).cols t ht r hr, cols_of h t ht r hr⟩⟩

end Go.Proofs.YtajddgpkflbnaaaDoor
