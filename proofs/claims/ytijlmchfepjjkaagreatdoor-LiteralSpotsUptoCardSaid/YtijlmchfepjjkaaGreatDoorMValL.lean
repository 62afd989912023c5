/-
  Values, members, as abstract values: small facts.
-/
import Derived.Test.YtijlmchfepjjkaaGreatDoorMVal
namespace Go.Proofs.YtijlmchfepjjkaaGreatDoor
open Go Go.Av
set_option maxRecDepth 100000
set_option maxHeartbeats 8000000
set_option linter.unusedVariables false
set_option linter.unusedSimpArgs false
theorem Val.lv_low (n m : Nat) (v : Val) : AV.lowL n m v.lv = true := AV.lowL_of_closed n m _ v.lv_closed
theorem Val.mv_low (n m : Nat) (v : Val) : AV.lowL n m v.mv = true := AV.lowL_of_closed n m _ v.mv_closed
theorem Val.low (n m : Nat) (v : Val) : v.enc.low n m = true := AV.low_of_closed n m _ v.closed
theorem sameV_eq (a b : Val) : sameV a b = (a.kind == b.kind && a.n == b.n && a.s == b.s && sameL a.l b.l && sameM a.m b.m) := by cases a; cases b; rw [sameV]; rfl
theorem sameL_len : ∀ {p q : List Val}, p.length ≠ q.length → sameL p q = false
  | [], [], h => absurd rfl h
  | [], _ :: _, _ => by rw [sameL] <;> simp
  | _ :: _, [], _ => by rw [sameL] <;> simp
  | a :: p, b :: q, h => by rw [sameL, sameL_len (p := p) (q := q) (by simpa using h), Bool.and_false]
theorem sameM_len : ∀ {p q : List Mem}, p.length ≠ q.length → sameM p q = false
  | [], [], h => absurd rfl h
  | [], _ :: _, _ => by rw [sameM] <;> simp
  | .mk _ _ :: _, [], _ => by rw [sameM] <;> simp
  | .mk _ _ :: p, .mk _ _ :: q, h => by rw [sameM, sameM_len (p := p) (q := q) (by simpa using h), Bool.and_false]
theorem sameL_drop {a b : List Val} {k : Nat} (h1 : k < a.length) (h2 : k < b.length) : sameL (a.drop k) (b.drop k) = (sameV a[k] b[k] && sameL (a.drop (k + 1)) (b.drop (k + 1))) := by
  rw [List.drop_eq_getElem_cons h1, List.drop_eq_getElem_cons h2, sameL]
theorem sameM_drop {a b : List Mem} {k : Nat} (h1 : k < a.length) (h2 : k < b.length) : sameM (a.drop k) (b.drop k) = (a[k].name == b[k].name && sameV a[k].v b[k].v && sameM (a.drop (k + 1)) (b.drop (k + 1))) := by
  rw [List.drop_eq_getElem_cons h1, List.drop_eq_getElem_cons h2]
  cases a[k]; cases b[k]
  rw [sameM]; rfl
theorem map_get' {α : Type} {f : α → AV} {l : List α} {k : Nat} (h : k < l.length) : (l.map f)[k]? = some (f l[k]) := by simp [h]
theorem Mem.closedL (l : List Mem) : AV.closedL (l.map Mem.enc) = true := closedL_map Mem.closed l
theorem Val.closedL' (l : List Val) : AV.closedL (l.map Val.enc) = true := closedL_map Val.closed l
theorem Mem.lowL (n m : Nat) (l : List Mem) : AV.lowL n m (l.map Mem.enc) = true := AV.lowL_of_closed n m _ (Mem.closedL l)
theorem Val.lowL' (n m : Nat) (l : List Val) : AV.lowL n m (l.map Val.enc) = true := AV.lowL_of_closed n m _ (Val.closedL' l)

end Go.Proofs.YtijlmchfepjjkaaGreatDoor
