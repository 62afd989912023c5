/-
  The order of paths: plain laws, no program in sight.
-/
import Derived.Test.YtajddgpkflbnaaaMPath
namespace Go.Proofs.Ytajddgpkflbnaaa
open Go Go.Av
set_option linter.unusedVariables false

/-- A comparison that orders. -/
structure Cmp {α : Type} (c : α → α → Int) : Prop where
  anti : ∀ a b, c b a = - c a b
  tr : ∀ a b d, c a b ≤ 0 → c b d ≤ 0 → c a d ≤ 0
  same : ∀ a b d, c a b = 0 → c a d = c b d

theorem Cmp.lt_le {α : Type} {c : α → α → Int} (h : Cmp c) {a b d : α} (h1 : c a b < 0) (h2 : c b d ≤ 0) : c a d < 0 := by
  have h3 := h.tr a b d (by omega) h2
  have h4 := h.same d a b
  have h5 := h.anti a d
  have h6 := h.anti b d
  have h7 := h.anti a b
  have h8 := h.anti d b
  omega
theorem Cmp.le_lt {α : Type} {c : α → α → Int} (h : Cmp c) {a b d : α} (h1 : c a b ≤ 0) (h2 : c b d < 0) : c a d < 0 := by
  have h3 := h.tr a b d h1 (by omega)
  have h4 := h.same a d b
  have h6 := h.anti b d
  omega

theorem cmpInt_cmp : Cmp cmpInt := by
  refine ⟨fun a b => ?_, fun a b d => ?_, fun a b d => ?_⟩ <;> unfold cmpInt
  · split <;> split <;> first | omega | (split <;> omega)
  · intro h1 h2
    split at h1 <;> split at h2 <;> split <;> first | omega | (split at h1 <;> first | omega | (split at h2 <;> first | omega | (split <;> omega))) | (split at h2 <;> first | omega | (split <;> omega)) | (split <;> omega)
  · intro h1
    have : a = b := by
      split at h1
      · omega
      · split at h1 <;> omega
    rw [this]

def lexCmp {α : Type} (c : α → α → Int) : List α → List α → Int
  | [], [] => 0
  | [], _ :: _ => -1
  | _ :: _, [] => 1
  | a :: p, b :: q => if c a b != 0 then c a b else lexCmp c p q

theorem lexCmp_cmp {α : Type} {c : α → α → Int} (h : Cmp c) : Cmp (lexCmp c) := by
  have hcons : ∀ (a b : α) (p q : List α), lexCmp c (a :: p) (b :: q) = if c a b = 0 then lexCmp c p q else c a b := by
    intro a b p q
    simp only [lexCmp, bne_iff_ne, ne_eq]
    by_cases e : c a b = 0 <;> simp [e]
  refine ⟨?_, ?_, ?_⟩
  · intro p
    induction p with
    | nil => intro q; cases q <;> rfl
    | cons a p ih =>
      intro q
      cases q with
      | nil => rfl
      | cons b q =>
        have := h.anti a b
        rw [hcons, hcons, ih q]
        by_cases e : c a b = 0
        · rw [if_pos e, if_pos (by omega)]
        · rw [if_neg e, if_neg (by omega), this]
  · intro p
    induction p with
    | nil => intro q r h1 h2; cases q <;> cases r <;> simp_all [lexCmp]
    | cons a p ih =>
      intro q r h1 h2
      cases q with
      | nil => simp [lexCmp] at h1
      | cons b q =>
        cases r with
        | nil => simp [lexCmp] at h2
        | cons d r =>
          rw [hcons] at h1 h2 ⊢
          have h3 := h.tr a b d
          have h4 := h.same a b d
          have h5 := @Cmp.le_lt α c h a b d
          have h6 := @Cmp.lt_le α c h a b d
          have h7 := ih q r
          split at h1 <;> split at h2 <;> split <;> omega
  · intro p
    induction p with
    | nil => intro q r h1; cases q <;> simp_all [lexCmp]
    | cons a p ih =>
      intro q r h1
      cases q with
      | nil => simp [lexCmp] at h1
      | cons b q =>
        rw [hcons] at h1
        have e : c a b = 0 := by split at h1 <;> omega
        rw [if_pos e] at h1
        cases r with
        | nil => rfl
        | cons d r => rw [hcons, hcons, h.same a b d e, ih q r h1]

theorem cmp_of {α β : Type} {c : β → β → Int} (f : α → β) (h : Cmp c) : Cmp (fun a b => c (f a) (f b)) := ⟨fun a b => h.anti _ _, fun a b d => h.tr _ _ _, fun a b d => h.same _ _ _⟩

theorem cmpStr_lex (m n : Str) : cmpStr m n = lexCmp (fun a b : UInt8 => cmpInt a.toNat b.toNat) m n := by
  induction m generalizing n with
  | nil => cases n <;> rfl
  | cons a m ih =>
    cases n with
    | nil => rfl
    | cons b n =>
      have := ih n
      unfold cmpStr at this ⊢
      simp only [strLt, lexCmp, ← this]
      by_cases e : a = b
      · subst e
        have h0 : ¬ a < a := by simp
        simp [h0, cmpInt]
      · have e' : a.toNat ≠ b.toNat := fun h => e (UInt8.toNat_inj.1 h)
        by_cases l : a < b
        · have l' : a.toNat < b.toNat := UInt8.lt_iff_toNat_lt.1 l
          simp [l, cmpInt, l']
        · have l' : ¬ a.toNat < b.toNat := fun h => l (UInt8.lt_iff_toNat_lt.2 h)
          have l2 : b.toNat < a.toNat := by omega
          have l3 : ¬ ((a.toNat : Int) < b.toNat) := by omega
          have l4 : (b.toNat : Int) < a.toNat := by omega
          simp [l, e, cmpInt, l3, l4]
theorem cmpStr_cmp : Cmp cmpStr := by
  have h : Cmp (fun m n => cmpStr m n) := by
    simp only [cmpStr_lex]
    exact lexCmp_cmp (cmp_of (fun a : UInt8 => (a.toNat : Int)) cmpInt_cmp)
  exact h

theorem stepCmp_cmp : Cmp stepCmp := by
  have e : ∀ x : Str, (x == []) = decide (x = []) := fun x => by cases x <;> rfl
  refine ⟨fun a b => ?_, fun a b d => ?_, fun a b d => ?_⟩ <;> simp only [stepCmp, e]
  · have := cmpInt_cmp.anti a.at_ b.at_
    have := cmpStr_cmp.anti a.name b.name
    by_cases h1 : a.name = [] <;> by_cases h2 : b.name = [] <;> simp [h1, h2] <;> simp_all
  · have := cmpInt_cmp.tr a.at_ b.at_ d.at_
    have := cmpStr_cmp.tr a.name b.name d.name
    by_cases h1 : a.name = [] <;> by_cases h2 : b.name = [] <;> by_cases h3 : d.name = [] <;> simp [h1, h2, h3] <;> simp_all
  · have := cmpInt_cmp.same a.at_ b.at_ d.at_
    have := cmpStr_cmp.same a.name b.name d.name
    by_cases h1 : a.name = [] <;> by_cases h2 : b.name = [] <;> by_cases h3 : d.name = [] <;> simp [h1, h2, h3] <;> simp_all

theorem pathCmp_lex : ∀ p q : Path, pathCmp p q = lexCmp stepCmp p q
  | [], [] => rfl
  | [], _ :: _ => rfl
  | _ :: _, [] => rfl
  | a :: p, b :: q => by rw [pathCmp, lexCmp, pathCmp_lex p q]
theorem pathCmp_cmp : Cmp pathCmp := by
  have h : Cmp (fun p q => pathCmp p q) := by
    simp only [pathCmp_lex]
    exact lexCmp_cmp stepCmp_cmp
  exact h

def isUnder (a b : Path) : Bool := decide (b.length ≤ a.length) && (pathCmp (a.take b.length) b == 0)

theorem lexCmp_take {α : Type} {c : α → α → Int} (h : Cmp c) : ∀ (a b : List α), lexCmp c (a.take b.length) b = 0 → b.length ≤ a.length → 0 ≤ lexCmp c a b
  | [], [], _, _ => by simp [lexCmp]
  | [], _ :: _, _, h2 => by simp at h2
  | _ :: _, [], _, _ => by simp [lexCmp]
  | x :: a, y :: b, h1, h2 => by
    simp only [List.length_cons, List.take_succ_cons, lexCmp, bne_iff_ne, ne_eq] at h1 ⊢
    have ih := lexCmp_take h a b
    by_cases e : c x y = 0
    · simp only [e, not_true_eq_false, if_false] at h1 ⊢
      exact ih h1 (by simpa using h2)
    · simp [e] at h1
theorem lexCmp_take_zero {α : Type} {c : α → α → Int} (h : Cmp c) : ∀ (a b : List α) (n : Nat), lexCmp c a b = 0 → lexCmp c (a.take n) (b.take n) = 0
  | [], [], n, _ => by simp [lexCmp]
  | [], _ :: _, _, h1 => by simp [lexCmp] at h1
  | _ :: _, [], _, h1 => by simp [lexCmp] at h1
  | x :: a, y :: b, 0, _ => by simp [lexCmp]
  | x :: a, y :: b, n + 1, h1 => by
    simp only [List.take_succ_cons, lexCmp, bne_iff_ne, ne_eq] at h1 ⊢
    by_cases e : c x y = 0
    · simp only [e, not_true_eq_false, if_false] at h1 ⊢
      exact lexCmp_take_zero h a b n h1
    · simp [e] at h1
theorem isUnder_not_less {a b : Path} (h : isUnder a b = true) : ¬ pathCmp a b < 0 := by
  simp only [isUnder, Bool.and_eq_true, decide_eq_true_eq, beq_iff_eq] at h
  rw [pathCmp_lex] at h
  have := lexCmp_take stepCmp_cmp a b h.2 h.1
  rw [pathCmp_lex]
  omega
theorem isUnder_trans {a b c : Path} (h1 : isUnder a b = true) (h2 : isUnder b c = true) : isUnder a c = true := by
  simp only [isUnder, Bool.and_eq_true, decide_eq_true_eq, beq_iff_eq] at h1 h2 ⊢
  refine ⟨by omega, ?_⟩
  have h3 := h1.2
  rw [pathCmp_lex] at h3
  have h4 := lexCmp_take_zero stepCmp_cmp _ _ c.length h3
  rw [List.take_take, Nat.min_eq_left h2.1, ← pathCmp_lex] at h4
  rw [pathCmp_cmp.same _ _ c h4]
  exact h2.2
theorem pathCmp_self (a : Path) : pathCmp a a = 0 := by have := pathCmp_cmp.anti a a; omega
end Go.Proofs.Ytajddgpkflbnaaa
