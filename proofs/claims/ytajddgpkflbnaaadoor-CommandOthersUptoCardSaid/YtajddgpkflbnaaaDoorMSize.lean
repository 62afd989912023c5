/-
  How large tables are; what that bound gives.
-/
import Derived.Test.YtajddgpkflbnaaaDoorMAdd
import Derived.Test.YtajddgpkflbnaaaDoorMCopy
namespace Go.Proofs.YtajddgpkflbnaaaDoor
open Go Go.Av
set_option maxRecDepth 100000
set_option linter.unusedVariables false
set_option linter.unusedSimpArgs false

/-- Small enough, as the bound on the arguments' bulk says. -/
def tabSize (l : List Tbl) : Nat := sumSize Tbl.size l
theorem fine_of {l : List Tbl} {n : Nat} (h : tabSize l ≤ n) : Fine n l := by
  have hl := sumSize_length (size := Tbl.size) (fun t => by unfold Tbl.size; omega) l
  refine ⟨by unfold tabSize at h; omega, fun t ht => ?_, fun t ht r hr => ?_⟩
  · have h1 := sumSize_mem (size := Tbl.size) ht
    have h2 := sumSize_length (size := Row.size) (fun r => by unfold Row.size; omega) t.rows
    have h3 : t.size = t.name.length + sumSize Row.size t.rows + 2 := rfl
    unfold tabSize at h; omega
  · have h1 := sumSize_mem (size := Tbl.size) ht
    have h2 := sumSize_mem (size := Row.size) hr
    have h3 := sumSize_length (size := Mem.size) Mem.size_pos r.cols
    have h4 : t.size = t.name.length + sumSize Row.size t.rows + 2 := rfl
    have h5 : r.size = r.key.length + r.typ.length + sumSize Mem.size r.cols + 4 := rfl
    unfold tabSize at h; omega
theorem cols_of {l : List Tbl} {n : Nat} (h : tabSize l ≤ n) : ∀ t ∈ l, ∀ r ∈ t.rows, sumSize Mem.size r.cols ≤ n := fun t ht r hr => by
  have h1 := sumSize_mem (size := Tbl.size) ht
  have h2 := sumSize_mem (size := Row.size) hr
  have h4 : t.size = t.name.length + sumSize Row.size t.rows + 2 := rfl
  have h5 : r.size = r.key.length + r.typ.length + sumSize Mem.size r.cols + 4 := rfl
  unfold tabSize at h; omega
theorem args_of (c : Cmd) : sumSize Mem.size c.args ≤ c.size ∧ c.args.length ≤ c.size := by
  have h1 : c.size = c.name.length + c.table.length + c.col.length + c.typ.length + sumSize Mem.size c.args + 5 := rfl
  have := sumSize_length Mem.size_pos c.args
  omega

/-! How large the tables are behind a command. -/
theorem sumSize_app {α : Type} (f : α → Nat) : ∀ l m : List α, sumSize f (l ++ m) = sumSize f l + sumSize f m
  | [], m => by simp [sumSize]
  | x :: l, m => by rw [List.cons_append, sumSize, sumSize, sumSize_app f l m]; omega
theorem sumSize_set {α : Type} (f : α → Nat) : ∀ (l : List α) (i : Nat) (h : i < l.length) (y : α), sumSize f (l.set i y) + f l[i] = sumSize f l + f y
  | [], i, h, _ => by simp at h
  | x :: l, 0, _, y => by simp only [List.set_cons_zero, sumSize, List.getElem_cons_zero]; omega
  | x :: l, i + 1, h, y => by
    have := sumSize_set f l i (by simpa using h) y
    simp only [List.set_cons_succ, sumSize, List.getElem_cons_succ]; omega
theorem setG_size (l : List Mem) (n : Str) (v : Val) : sumSize Mem.size (setG l n v) ≤ sumSize Mem.size l + n.length + 2 + v.size := by
  unfold setG
  split
  · rw [sumSize_app]; simp only [sumSize]; have : (Mem.mk n v).size = n.length + 2 + v.size := rfl; omega
  · rename_i i hi
    rcases fidx_spec (fun m : Mem => m.name == n) l 0 with ⟨_, h4⟩ | ⟨k, hk, _, h4, _⟩
    · rw [h4] at hi; cases hi
    · rw [h4] at hi
      cases hi
      have hk' : i < l.length := hk
      rw [modAt_eq hk']
      have := sumSize_set Mem.size l i hk' (.mk l[i].name v)
      have h1 : (Mem.mk l[i].name v).size = l[i].name.length + 2 + v.size := rfl
      have h2 : l[i].size = l[i].name.length + 2 + l[i].v.size := rfl
      omega
theorem putCols_size : ∀ (args cols : List Mem), sumSize Mem.size (putCols args cols) ≤ sumSize Mem.size cols + sumSize Mem.size args
  | [], cols => by simp [putCols, sumSize]
  | m :: args, cols => by
    rw [putCols]
    have h1 := putCols_size args (if m.name != sKey then setG cols m.name m.v else cols)
    have h2 := setG_size cols m.name m.v
    have h3 : m.size = m.name.length + 2 + m.v.size := rfl
    simp only [sumSize]
    split at h1 <;> simp_all <;> omega
theorem putRows_size (rows : List Row) (r : Row) : sumSize Row.size (putRows rows r) ≤ sumSize Row.size rows + r.size := by
  unfold putRows
  split
  · rw [sumSize_app]; simp only [sumSize]; omega
  · rename_i i hi
    rcases fidx_spec (fun x : Row => x.key == r.key) rows 0 with ⟨_, h4⟩ | ⟨k, hk, _, h4, _⟩
    · rw [h4] at hi; cases hi
    · rw [h4] at hi
      cases hi
      have := sumSize_set Row.size rows i hk r
      omega
theorem sumSize_take_drop {α : Type} (f : α → Nat) (l : List α) (i j : Nat) (h : i ≤ j) : sumSize f (l.take i) + sumSize f (l.drop j) ≤ sumSize f l := by
  have h1 := sumSize_app f (l.take i) (l.drop i)
  have h2 := sumSize_app f ((l.drop i).take (j - i)) ((l.drop i).drop (j - i))
  rw [List.take_append_drop] at h1 h2
  rw [List.drop_drop] at h2
  have h3 : i + (j - i) = j := by omega
  rw [h3] at h2
  omega
theorem cutRows_size (rows : List Row) (key : Str) : sumSize Row.size (cutRows rows key) ≤ sumSize Row.size rows := by
  unfold cutRows
  split
  · omega
  · rename_i i hi
    rw [sumSize_app]
    exact sumSize_take_drop _ _ _ _ (by omega)
theorem putG_size (l : List Tbl) (name : Str) (r : Row) : tabSize (putG l name r) ≤ tabSize l + name.length + r.size + 2 := by
  unfold putG tabSize
  split
  · rw [sumSize_app]; simp only [sumSize]
    have : Tbl.size ⟨name, [r]⟩ = name.length + sumSize Row.size [r] + 2 := rfl
    simp only [sumSize] at this; omega
  · rename_i i hi
    rcases fidx_spec (fun t : Tbl => t.name == name) l 0 with ⟨_, h4⟩ | ⟨k, hk, _, h4, _⟩
    · rw [h4] at hi; cases hi
    · rw [h4] at hi
      cases hi
      have hk' : i < l.length := hk
      rw [modAt_eq hk']
      have := sumSize_set Tbl.size l i hk' ⟨l[i].name, putRows l[i].rows r⟩
      have h1 : Tbl.size ⟨l[i].name, putRows l[i].rows r⟩ = l[i].name.length + sumSize Row.size (putRows l[i].rows r) + 2 := rfl
      have h2 : l[i].size = l[i].name.length + sumSize Row.size l[i].rows + 2 := rfl
      have h3 := putRows_size l[i].rows r
      omega
theorem cutG_size (l : List Tbl) (name key : Str) : tabSize (cutG l name key) ≤ tabSize l := by
  unfold cutG tabSize
  split
  · omega
  · rename_i i hi
    rcases fidx_spec (fun t : Tbl => t.name == name) l 0 with ⟨_, h4⟩ | ⟨k, hk, _, h4, _⟩
    · rw [h4] at hi; cases hi
    · rw [h4] at hi
      cases hi
      have hk' : i < l.length := hk
      rw [modAt_eq hk']
      have := sumSize_set Tbl.size l i hk' ⟨l[i].name, cutRows l[i].rows key⟩
      have h1 : Tbl.size ⟨l[i].name, cutRows l[i].rows key⟩ = l[i].name.length + sumSize Row.size (cutRows l[i].rows key) + 2 := rfl
      have h2 : l[i].size = l[i].name.length + sumSize Row.size l[i].rows + 2 := rfl
      have h3 := cutRows_size l[i].rows key
      omega
theorem light_of (l : List Tbl) (n : Nat) (h : tabSize l ≤ n) (hn : n ≤ 1048576) : PFn Tryd.prog 19 [Tbls.enc l] (.bool (lightT l)) := by
  have hf := fine_of h
  exact light l (by have := hf.len; omega) (fun t ht => by have := hf.rows t ht; omega) (fun t ht r hr => by have := cols_of h t ht r hr; omega)
theorem same_of (l : List Tbl) (n : Nat) (h : tabSize l ≤ n) (hn : n ≤ 9223372036854775807) : PFn Tryd.prog 25 [Tbls.enc l, Tbls.enc l] (.bool true) := by
  have hf := fine_of h
  exact sameTables l (by have := hf.len; omega) (fun t ht => by have := hf.rows t ht; omega) (fun t ht r hr => by have := cols_of h t ht r hr; omega)
theorem keep_of (l : List Tbl) (n : Nat) (h : tabSize l ≤ n) (hn : n ≤ 1048576) : PFn Tryd.prog 22 [Tbls.enc l] (Tbls.enc l) := by
  have hf := fine_of h
  exact tablesK l (by have := hf.len; omega) (fun t ht => by have := hf.rows t ht; omega) (fun t ht r hr => by have := cols_of h t ht r hr; omega)

end Go.Proofs.YtajddgpkflbnaaaDoor
