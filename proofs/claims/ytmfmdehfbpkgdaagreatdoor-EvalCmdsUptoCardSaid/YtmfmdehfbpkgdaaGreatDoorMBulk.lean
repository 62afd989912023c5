/-
  The statements' bulk is the library's.
-/
import Derived.Test.YtmfmdehfbpkgdaaGreatDoorRows
import Derived.Test.YtmfmdehfbpkgdaaGreatDoorAvLaw
import Derived.WalkKit
import Derived.ProofKit
import Derived.OpenShut
import Derived.JoinedCond
import Derived.Handed
namespace Go.Proofs.YtmfmdehfbpkgdaaGreatDoor
open Go Go.Av

mutual
theorem bulk_eq {H : Type} : ∀ d : DataW H, Rows.uptoBulk d = bulk d
  | .lit (.string bytes) => rfl
  | .lit (.bool _) => rfl
  | .lit (.int _ _) => rfl
  | .lit (.float _ _) => rfl
  | .lit .nil => rfl
  | .nil => rfl
  | .ptr d => by rw [Rows.uptoBulk, bulk, bulk_eq d]
  | .slice elems spare => by rw [Rows.uptoBulk, bulk, bulkAll_eq elems, bulkAll_eq spare]
  | .agg parts => by rw [Rows.uptoBulk, bulk, bulkAll_eq parts]
  | .iface _ d => by rw [Rows.uptoBulk, bulk, bulk_eq d]
  | .map entries => by rw [Rows.uptoBulk, bulk, bulkEntries_eq entries]
  | .held _ => rfl
theorem bulkAll_eq {H : Type} : ∀ l : List (DataW H), Rows.uptoBulkAll l = bulkAll l
  | [] => rfl
  | d :: r => by rw [Rows.uptoBulkAll, bulkAll, bulk_eq d, bulkAll_eq r]
theorem bulkEntries_eq {H : Type} : ∀ l : List (Lit × DataW H), Rows.uptoBulkEntries l = bulkEntries l
  | [] => rfl
  | x :: r => by rw [Rows.uptoBulkEntries, bulkEntries, bulkEntry_eq x, bulkEntries_eq r]
theorem bulkEntry_eq {H : Type} : ∀ x : Lit × DataW H, Rows.uptoBulkEntry x = bulkEntry x
  | (.string bytes, d) => by rw [Rows.uptoBulkEntry, bulkEntry, bulk_eq d]
  | (.bool _, d) => by rw [Rows.uptoBulkEntry, bulkEntry, bulk_eq d] <;> intro _ h <;> cases h
  | (.int _ _, d) => by rw [Rows.uptoBulkEntry, bulkEntry, bulk_eq d] <;> intro _ h <;> cases h
  | (.float _ _, d) => by rw [Rows.uptoBulkEntry, bulkEntry, bulk_eq d] <;> intro _ h <;> cases h
  | (.nil, d) => by rw [Rows.uptoBulkEntry, bulkEntry, bulk_eq d] <;> intro _ h <;> cases h
end
/-- What the bound says. -/
theorem small_bulk {H : Type} {ds : List (DataW H)} (h : Rows.uptoSmall H ds = true) : bulkAll ds ≤ 1048576 := by
  have h' : Rows.uptoBulkAll ds ≤ 1048576 := of_decide_eq_true h
  rwa [bulkAll_eq] at h'
theorem slice_len {g : Gh} {w : World} {xs : List AV} {t : Tk} {v : Value} (h : Rep g w (.slice xs t) v) : xs.length ≤ 9223372036854775807 := by
  obtain ⟨a, cap, sz, Vs, e, h1, h2, h3, h4, h5, h6⟩ := h
  have := h4.length
  have h2' : cap ≤ 2 ^ 63 - 1 := h2
  omega
theorem own : ownKnob Tryz.prog.godebug = none := by kernel_rfl
end Go.Proofs.YtmfmdehfbpkgdaaGreatDoor
