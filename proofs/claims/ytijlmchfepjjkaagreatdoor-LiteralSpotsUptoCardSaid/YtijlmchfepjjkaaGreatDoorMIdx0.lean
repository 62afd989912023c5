/-
  The first place where something holds, in plain words.
-/
import Derived.Test.YtijlmchfepjjkaaGreatDoorMValL
namespace Go.Proofs.YtijlmchfepjjkaaGreatDoor
open Go Go.Av
set_option maxRecDepth 100000
set_option maxHeartbeats 8000000
set_option linter.unusedVariables false
set_option linter.unusedSimpArgs false
def idxFrom {α : Type} (p : α → Bool) : List α → Nat → Int
  | [], _ => -1
  | x :: l, k => if p x then (k : Int) else idxFrom p l (k + 1)
theorem idxFrom_drop {α : Type} {p : α → Bool} {l : List α} {k : Nat} (h : k < l.length) : idxFrom p (l.drop k) k = if p l[k] then (k : Int) else idxFrom p (l.drop (k + 1)) (k + 1) := by
  rw [List.drop_eq_getElem_cons h, idxFrom]

theorem idxFrom_spec {α : Type} (p : α → Bool) : ∀ (l : List α) (k : Nat), (idxFrom p l k = -1 ∧ l.find? p = none) ∨ ∃ (j : Nat) (h : j < l.length), idxFrom p l k = ((k + j : Nat) : Int) ∧ l.find? p = some l[j]
  | [], k => .inl ⟨rfl, rfl⟩
  | x :: l, k => by
    by_cases e : p x = true
    · exact .inr ⟨0, by simp, by simp [idxFrom, e], by simp [e]⟩
    · rcases idxFrom_spec p l (k + 1) with ⟨h1, h2⟩ | ⟨j, h, h1, h2⟩
      · exact .inl ⟨by simp [idxFrom, e, h1], by simp [List.find?, e, h2]⟩
      · exact .inr ⟨j + 1, by simpa using h, by simp [idxFrom, e, h1]; omega, by simp [List.find?, e, h2]⟩
theorem idx_any {α : Type} (p : α → Bool) (l : List α) : decide (0 ≤ idxFrom p l 0) = l.any p := by
  rcases idxFrom_spec p l 0 with ⟨h1, h2⟩ | ⟨j, hj, h1, h2⟩
  · rw [h1]
    rw [List.find?_eq_none] at h2
    have : l.any p = false := by rw [Bool.eq_false_iff]; intro h; obtain ⟨x, hx, hp⟩ := List.any_eq_true.1 h; exact h2 x hx hp
    rw [this]; decide
  · rw [h1]
    have hp := List.find?_some h2
    have : l.any p = true := List.any_eq_true.2 ⟨_, List.getElem_mem hj, hp⟩
    rw [this]
    exact decide_eq_true (by omega)
theorem idx_mem (l : List Str) (x : Str) : decide (0 ≤ idxFrom (fun y => x == y) l 0) = decide (x ∈ l) := by
  rw [idx_any, Bool.eq_iff_iff, List.any_eq_true, decide_eq_true_eq]
  constructor
  · rintro ⟨y, hy, e⟩; rw [beq_iff_eq] at e; subst e; exact hy
  · intro h; exact ⟨x, h, by simp⟩
theorem idx_memI (l : List Int) (x : Int) : decide (0 ≤ idxFrom (fun y => x == y) l 0) = decide (x ∈ l) := by
  rw [idx_any, Bool.eq_iff_iff, List.any_eq_true, decide_eq_true_eq]
  constructor
  · rintro ⟨y, hy, e⟩; rw [beq_iff_eq] at e; subst e; exact hy
  · intro h; exact ⟨x, h, by simp⟩
end Go.Proofs.YtijlmchfepjjkaaGreatDoor
