/-
  Plain laws of commands: what else is found behind one.
-/
import Derived.Test.YtajddgpkflbnaaaDoorMSlim
import Derived.Test.YtajddgpkflbnaaaDoorMTabP2
namespace Go.Proofs.YtajddgpkflbnaaaDoor
open Go Go.Av
set_option maxRecDepth 100000
set_option linter.unusedVariables false
set_option linter.unusedSimpArgs false

/-- The key of the row that a command is about. -/
def keyOf (c : Cmd) : Str := (getG sKey c.args).1.s
theorem findG_key {l : List Tbl} {n : Need} (h : (findG l n).is = true) : (findG l n).row.key = n.key := by
  unfold findG at h ⊢
  cases ht : l.find? (fun t => t.name == n.table) with
  | none => rw [ht] at h; cases h
  | some t =>
    rw [ht] at h
    dsimp only at h ⊢
    cases hr : t.rows.find? (fun r => r.key == n.key) with
    | none => rw [hr] at h; cases h
    | some r =>
      rw [hr] at h
      dsimp only at h ⊢
      have hk := List.find?_some hr
      unfold gotOf at h ⊢
      by_cases hb : r.broken = true
      · rw [if_pos hb] at h; cases h
      · rw [if_neg hb]; exact beq_iff_eq.1 hk
theorem cmd_other {l : List Tbl} {c : Cmd} {n : Need} (h : (n.table == c.table && (n.key == keyOf c && true)) = false) : findG (cmdG l c).1 n = findG l n := by
  have hput : ∀ r : Row, r.key = keyOf c → findG (putG l c.table r) n = findG l n := fun r hr => find_put_other (by rw [hr]; exact h)
  unfold keyOf at h hput
  unfold cmdG
  split
  · rfl
  · split
    · rfl
    · split
      · rfl
      · split
        · rfl
        · split
          · refine hput _ ?_
            unfold putRow
            dsimp only
            split
            · rename_i hi
              exact findG_key hi
            · rfl
          · split
            · rfl
            · rename_i hi
              have hi' : (findG l ⟨c.table, (getG sKey c.args).1.s⟩).is = true := by simpa using hi
              split
              · exact find_cut_other h
              · unfold addG
                dsimp only
                split
                · rfl
                · split
                  · rfl
                  · split
                    · rfl
                    · exact hput _ (findG_key hi')
end Go.Proofs.YtajddgpkflbnaaaDoor
