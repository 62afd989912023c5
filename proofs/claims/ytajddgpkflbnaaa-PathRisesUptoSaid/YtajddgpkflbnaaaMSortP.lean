/-
  Stable sorting: plain laws, no program in sight.
-/
import Derived.Test.YtajddgpkflbnaaaMPathL
namespace Go.Proofs.Ytajddgpkflbnaaa
open Go Go.Av
set_option linter.unusedVariables false
set_option linter.unusedSimpArgs false

section
variable {α : Type} {c : α → α → Int}

def eqv (c : α → α → Int) (a : α) : α → Bool := fun x => c a x == 0
/-- Of each class the same ones, in the same order. -/
def Stab (c : α → α → Int) (xs ys : List α) : Prop := ∀ a, ys.filter (eqv c a) = xs.filter (eqv c a)
def Srt (c : α → α → Int) (xs : List α) : Prop := xs.Pairwise fun x y => c x y ≤ 0

theorem Cmp.self (h : Cmp c) (a : α) : c a a = 0 := by have := h.anti a a; omega

theorem Stab.refl (xs : List α) : Stab c xs xs := fun _ => rfl
theorem Stab.symm {xs ys : List α} (h : Stab c xs ys) : Stab c ys xs := fun a => (h a).symm
theorem Stab.trans {xs ys zs : List α} (h : Stab c xs ys) (k : Stab c ys zs) : Stab c xs zs := fun a => (k a).trans (h a)
theorem Stab.app {xs ys xs' ys' : List α} (h : Stab c xs ys) (k : Stab c xs' ys') : Stab c (xs ++ xs') (ys ++ ys') := fun a => by
  rw [List.filter_append, List.filter_append, h a, k a]
theorem Stab.swap (h : Cmp c) {u v : List α} (hlt : ∀ x ∈ u, ∀ y ∈ v, c y x < 0) : Stab c (u ++ v) (v ++ u) := fun a => by
  rw [List.filter_append, List.filter_append]
  cases hu : u.filter (eqv c a) with
  | nil => simp
  | cons x l =>
    have hx : x ∈ u.filter (eqv c a) := by rw [hu]; exact List.mem_cons_self
    rw [List.mem_filter] at hx
    have hv : v.filter (eqv c a) = [] := by
      rw [List.filter_eq_nil_iff]
      intro y hy hy2
      have h1 := hlt x hx.1 y hy
      have h2 : c a x = 0 := by simpa [eqv] using hx.2
      have h3 : c a y = 0 := by simpa [eqv] using hy2
      have h4 := h.same a y x h3
      omega
    rw [hv]
    simp
theorem Stab.cancelL {p xs ys : List α} (h : Stab c (p ++ xs) (p ++ ys)) : Stab c xs ys := fun a => by
  have := h a
  rw [List.filter_append, List.filter_append] at this
  exact List.append_cancel_left this
theorem Stab.cancelR {p xs ys : List α} (h : Stab c (xs ++ p) (ys ++ p)) : Stab c xs ys := fun a => by
  have := h a
  rw [List.filter_append, List.filter_append] at this
  exact List.append_cancel_right this

theorem Stab.unique (h : Cmp c) : ∀ {ys zs : List α}, Srt c ys → Srt c zs → Stab c ys zs → ys = zs
  | [], [], _, _, _ => rfl
  | [], z :: zs, _, _, hs => by
    have := hs z
    simp [eqv, h.self] at this
  | y :: ys, [], _, _, hs => by
    have := hs y
    simp [eqv, h.self] at this
  | y :: ys, z :: zs, hy, hz, hs => by
    have hy' := List.pairwise_cons.1 hy
    have hz' := List.pairwise_cons.1 hz
    have e1 : y ∈ z :: zs := by
      have : y ∈ (z :: zs).filter (eqv c y) := by rw [hs y]; simp [eqv, h.self]
      exact (List.mem_filter.1 this).1
    have e2 : z ∈ y :: ys := by
      have : z ∈ (y :: ys).filter (eqv c z) := by rw [← hs z]; simp [eqv, h.self]
      exact (List.mem_filter.1 this).1
    have h1 : c z y ≤ 0 := by
      rcases List.mem_cons.1 e1 with e | e
      · rw [e, h.self]; omega
      · exact hz'.1 y e
    have h2 : c y z ≤ 0 := by
      rcases List.mem_cons.1 e2 with e | e
      · rw [e, h.self]; omega
      · exact hy'.1 z e
    have h3 := h.anti y z
    have h4 : c y z = 0 := by omega
    have h5 := hs y
    rw [List.filter_cons, List.filter_cons, if_pos (by simp [eqv, h4]), if_pos (by simp [eqv, h.self])] at h5
    have h6 : z = y := (List.cons.inj h5).1
    subst h6
    have h7 : Stab c ys zs := Stab.cancelL (p := [z]) hs
    rw [Stab.unique h hy'.2 hz'.2 h7]

def ins (c : α → α → Int) (x : α) : List α → List α
  | [] => [x]
  | y :: l => if c x y ≤ 0 then x :: y :: l else y :: ins c x l
def isort (c : α → α → Int) : List α → List α
  | [] => []
  | x :: l => ins c x (isort c l)
theorem ins_length (x : α) : ∀ l : List α, (ins c x l).length = l.length + 1
  | [] => rfl
  | y :: l => by unfold ins; split <;> simp [ins_length x l]
theorem isort_length : ∀ l : List α, (isort c l).length = l.length
  | [] => rfl
  | x :: l => by rw [isort, ins_length, isort_length l]; rfl
theorem ins_mem {x z : α} : ∀ {l : List α}, z ∈ ins c x l → z = x ∨ z ∈ l
  | [], hz => by simpa [ins] using hz
  | y :: l, hz => by
    unfold ins at hz
    split at hz
    · simpa using hz
    · rcases List.mem_cons.1 hz with rfl | hz
      · simp
      · rcases ins_mem hz with rfl | hz <;> simp [*]
theorem isort_mem {z : α} : ∀ {l : List α}, z ∈ isort c l → z ∈ l
  | [], hz => by simp [isort] at hz
  | x :: l, hz => by
    rcases ins_mem hz with rfl | hz
    · simp
    · exact List.mem_cons_of_mem _ (isort_mem hz)
theorem ins_srt (h : Cmp c) (x : α) : ∀ {l : List α}, Srt c l → Srt c (ins c x l)
  | [], _ => by simp [ins, Srt]
  | y :: l, hl => by
    have hl' := List.pairwise_cons.1 hl
    unfold ins
    split
    · rename_i hxy
      refine List.pairwise_cons.2 ⟨fun z hz => ?_, hl⟩
      rcases List.mem_cons.1 hz with rfl | hz
      · exact hxy
      · exact h.tr x y z hxy (hl'.1 z hz)
    · rename_i hxy
      refine List.pairwise_cons.2 ⟨fun z hz => ?_, ins_srt h x hl'.2⟩
      rcases ins_mem hz with rfl | hz
      · have := h.anti z y; omega
      · exact hl'.1 z hz
theorem isort_srt (h : Cmp c) : ∀ l : List α, Srt c (isort c l)
  | [] => List.Pairwise.nil
  | x :: l => ins_srt h x (isort_srt h l)
theorem ins_stab (h : Cmp c) (x : α) : ∀ l : List α, Stab c (x :: l) (ins c x l)
  | [] => Stab.refl _
  | y :: l => by
    unfold ins
    split
    · exact Stab.refl _
    · rename_i hxy
      have h1 : Stab c (x :: y :: l) (y :: x :: l) := by
        refine Stab.app (xs := [x] ++ [y]) (ys := [y] ++ [x]) (Stab.swap h ?_) (Stab.refl l)
        intro a ha b hb
        simp only [List.mem_singleton] at ha hb
        subst ha; subst hb
        have := h.anti a b; omega
      exact h1.trans (Stab.app (xs := [y]) (ys := [y]) (Stab.refl _) (ins_stab h x l))
theorem isort_stab (h : Cmp c) : ∀ l : List α, Stab c l (isort c l)
  | [] => Stab.refl _
  | x :: l => (Stab.app (xs := [x]) (ys := [x]) (Stab.refl _) (isort_stab h l)).trans (ins_stab h x _)

/-- What has changed between a and b alone, keeping each class's order. -/
structure Seg (c : α → α → Int) (a b : Nat) (xs ys : List α) : Prop where
  len : ys.length = xs.length
  out : ∀ k, k < a ∨ b ≤ k → ys[k]? = xs[k]?
  inn : ∀ k, a ≤ k → k < b → ∃ k', a ≤ k' ∧ k' < b ∧ ys[k]? = xs[k']?
  st : Stab c xs ys
/-- Sorted between a and b. -/
def SrtIx (c : α → α → Int) (a b : Nat) (xs : List α) : Prop := ∀ (i j : Nat) (x y : α), a ≤ i → i < j → j < b → xs[i]? = some x → xs[j]? = some y → c x y ≤ 0

theorem Seg.refl (a b : Nat) (xs : List α) : Seg c a b xs xs := ⟨rfl, fun _ _ => rfl, fun k h1 h2 => ⟨k, h1, h2, rfl⟩, Stab.refl _⟩
theorem Seg.trans {a b : Nat} {xs ys zs : List α} (h : Seg c a b xs ys) (k : Seg c a b ys zs) : Seg c a b xs zs where
  len := k.len.trans h.len
  out i hi := (k.out i hi).trans (h.out i hi)
  inn i h1 h2 := by
    obtain ⟨j, h3, h4, h5⟩ := k.inn i h1 h2
    obtain ⟨l, h6, h7, h8⟩ := h.inn j h3 h4
    exact ⟨l, h6, h7, h5.trans h8⟩
  st := h.st.trans k.st
theorem Seg.wide {a b a' b' : Nat} {xs ys : List α} (h : Seg c a b xs ys) (ha : a' ≤ a) (hb : b ≤ b') : Seg c a' b' xs ys where
  len := h.len
  out i hi := h.out i (by omega)
  inn i h1 h2 := by
    by_cases e : a ≤ i ∧ i < b
    · obtain ⟨j, h3, h4, h5⟩ := h.inn i e.1 e.2
      exact ⟨j, by omega, by omega, h5⟩
    · exact ⟨i, h1, h2, h.out i (by omega)⟩
  st := h.st
theorem SrtIx.part {a b a' b' : Nat} {xs : List α} (h : SrtIx c a b xs) (ha : a ≤ a') (hb : b' ≤ b) : SrtIx c a' b' xs := fun i j x y h1 h2 h3 => h i j x y (by omega) h2 (by omega)
theorem SrtIx.out {a b a' b' : Nat} {xs ys : List α} (h : SrtIx c a b xs) (hs : Seg c a' b' xs ys) (hd : b ≤ a' ∨ b' ≤ a) : SrtIx c a b ys := fun i j x y h1 h2 h3 e1 e2 => by
  rw [hs.out i (by omega)] at e1
  rw [hs.out j (by omega)] at e2
  exact h i j x y h1 h2 h3 e1 e2

/-- Two parts, one behind the other, change places. -/
theorem rot_ix (p u v s : List α) (k : Nat) : (p ++ v ++ u ++ s)[k]? = if k < p.length then (p ++ u ++ v ++ s)[k]? else if k < p.length + v.length then (p ++ u ++ v ++ s)[k + u.length]? else if k < p.length + v.length + u.length then (p ++ u ++ v ++ s)[k - v.length]? else (p ++ u ++ v ++ s)[k]? := by
  simp only [List.getElem?_append, List.length_append]
  repeat' split
  all_goals first | rfl | omega | (congr 1; omega)
theorem rot_seg (h : Cmp c) {p u v s : List α} (hlt : ∀ x ∈ u, ∀ y ∈ v, c y x < 0) : Seg c p.length (p.length + u.length + v.length) (p ++ u ++ v ++ s) (p ++ v ++ u ++ s) where
  len := by simp; omega
  out k hk := by
    rw [rot_ix]
    repeat' split
    all_goals first | rfl | omega
  inn k h1 h2 := by
    rw [rot_ix]
    repeat' split
    · omega
    · exact ⟨k + u.length, by omega, by omega, rfl⟩
    · exact ⟨k - v.length, by omega, by omega, rfl⟩
    · omega
  st := by
    have : Stab c (p ++ (u ++ v) ++ s) (p ++ (v ++ u) ++ s) := Stab.app (Stab.app (Stab.refl _) (Stab.swap h hlt)) (Stab.refl _)
    simpa using this

/-- A list in parts: ahead of a; a to b; from b on. -/
theorem split3 {xs : List α} {a b : Nat} (hab : a ≤ b) (hb : b ≤ xs.length) : ∃ p s t, xs = p ++ s ++ t ∧ p.length = a ∧ s.length = b - a := by
  refine ⟨xs.take a, (xs.take b).drop a, xs.drop b, ?_, by simp; omega, by simp; omega⟩
  have : xs.take a = (xs.take b).take a := by rw [List.take_take, Nat.min_eq_left hab]
  rw [this, List.take_append_drop, List.take_append_drop]
theorem split4 {xs : List α} {a m b : Nat} (ham : a ≤ m) (hmb : m ≤ b) (hb : b ≤ xs.length) : ∃ p u v s, xs = p ++ u ++ v ++ s ∧ p.length = a ∧ u.length = m - a ∧ v.length = b - m := by
  obtain ⟨p, t, s, e, h1, h2⟩ := split3 (a := a) (by omega) hb
  refine ⟨p, t.take (m - a), t.drop (m - a), s, ?_, h1, by simp; omega, by simp; omega⟩
  rw [List.append_assoc p, List.take_append_drop, e]
theorem split_ix {xs : List α} {j : Nat} {x : α} (h : xs[j]? = some x) : ∃ p s, xs = p ++ [x] ++ s ∧ p.length = j := by
  obtain ⟨h1, h2⟩ := List.getElem?_eq_some_iff.1 h
  refine ⟨xs.take j, xs.drop (j + 1), ?_, by simp; omega⟩
  rw [List.append_assoc, List.singleton_append, ← h2, List.getElem_cons_drop, List.take_append_drop]

theorem ix_mid {p s t : List α} {k : Nat} (h1 : p.length ≤ k) (h2 : k < p.length + s.length) : (p ++ s ++ t)[k]? = s[k - p.length]? := by
  rw [List.append_assoc, List.getElem?_append_right h1, List.getElem?_append_left (by omega)]

def segSort (c : α → α → Int) (a b : Nat) (xs : List α) : List α := xs.take a ++ isort c ((xs.take b).drop a) ++ xs.drop b
theorem srt_of_ix {p s t : List α} (h : SrtIx c p.length (p.length + s.length) (p ++ s ++ t)) : Srt c s := by
  rw [Srt, List.pairwise_iff_getElem]
  intro i j hi hj hij
  refine h (p.length + i) (p.length + j) _ _ (by omega) (by omega) (by omega) ?_ ?_
  · rw [List.append_assoc, List.getElem?_append_right (by omega), List.getElem?_append_left (by omega), show p.length + i - p.length = i by omega]; simp
  · rw [List.append_assoc, List.getElem?_append_right (by omega), List.getElem?_append_left (by omega), show p.length + j - p.length = j by omega]; simp
theorem seg_eq {a b : Nat} {xs p s t : List α} (e : xs = p ++ s ++ t) (h1 : p.length = a) (h2 : p.length + s.length = b) : xs.take a = p ∧ (xs.take b).drop a = s ∧ xs.drop b = t := by
  subst e; subst h1; subst h2
  refine ⟨?_, ?_, ?_⟩
  · rw [List.append_assoc, List.take_left]
  · rw [← List.length_append, List.take_left, List.drop_left]
  · rw [← List.length_append, List.drop_left]
/-- There is just one way. -/
theorem seg_sorted (h : Cmp c) {a b : Nat} (hab : a ≤ b) {xs ys : List α} (hb : b ≤ xs.length) (hs : Seg c a b xs ys) (ho : SrtIx c a b ys) : ys = segSort c a b xs := by
  obtain ⟨p, s, t, e, h1, h2⟩ := split3 hab hb
  obtain ⟨p', s', t', e', h1', h2'⟩ := split3 (xs := ys) hab (by rw [hs.len]; exact hb)
  obtain ⟨q1, q2, q3⟩ := seg_eq (b := b) e h1 (by omega)
  have ep : p' = p := by
    apply List.ext_getElem?
    intro k
    by_cases hk : k < a
    · have := hs.out k (.inl hk)
      rw [e, e', List.append_assoc, List.append_assoc, List.getElem?_append_left (by omega), List.getElem?_append_left (by omega)] at this
      exact this
    · rw [List.getElem?_eq_none (by omega), List.getElem?_eq_none (by omega)]
  have et : t' = t := by
    apply List.ext_getElem?
    intro k
    have := hs.out (b + k) (.inr (by omega))
    rw [e, e', List.getElem?_append_right (by simp; omega), List.getElem?_append_right (by simp; omega)] at this
    have e1 : b + k - (p' ++ s').length = k := by simp; omega
    have e2 : b + k - (p ++ s).length = k := by simp; omega
    rw [e1, e2] at this
    exact this
  subst ep; subst et
  have hst : Stab c s s' := by
    have := hs.st
    rw [e, e'] at this
    exact Stab.cancelL (p := p') (Stab.cancelR this)
  have hsr : Srt c s' := by
    refine srt_of_ix (p := p') (t := t') ?_
    rw [← e', h1', show a + s'.length = b by omega]
    exact ho
  unfold segSort
  rw [q1, q2, q3, e']
  congr 2
  exact (Stab.unique h (isort_srt h s) hsr ((isort_stab h s).symm.trans hst)).symm
theorem segSort_seg (h : Cmp c) {a b : Nat} (hab : a ≤ b) {xs : List α} (hb : b ≤ xs.length) : Seg c a b xs (segSort c a b xs) ∧ SrtIx c a b (segSort c a b xs) := by
  obtain ⟨p, s, t, e, h1, h2⟩ := split3 hab hb
  obtain ⟨q1, q2, q3⟩ := seg_eq (b := b) e h1 (by omega)
  have hl : (isort c s).length = s.length := isort_length s
  have hee : segSort c a b xs = p ++ isort c s ++ t := by unfold segSort; rw [q1, q2, q3]
  rw [hee]
  refine ⟨⟨?_, ?_, ?_, ?_⟩, ?_⟩
  · rw [e]; simp [hl]
  · intro k hk
    rw [e]
    simp only [List.getElem?_append, List.length_append, hl]
    repeat' split
    all_goals first | rfl | omega
  · intro k k1 k2
    have hks : k - a < s.length := by omega
    have hki : k - a < (isort c s).length := by omega
    have hm : (isort c s)[k - a] ∈ s := isort_mem (List.getElem_mem hki)
    obtain ⟨j, hj, hje⟩ := List.mem_iff_getElem.1 hm
    refine ⟨a + j, by omega, by omega, ?_⟩
    rw [e, ix_mid (k := k) (by omega) (by omega), ix_mid (k := a + j) (by omega) (by omega), h1, show a + j - a = j by omega, List.getElem?_eq_getElem hki, List.getElem?_eq_getElem hj, hje]
  · rw [e]; exact Stab.app (Stab.app (Stab.refl _) (isort_stab h s)) (Stab.refl _)
  · intro i j x y hi hij hj ex ey
    have hsr := isort_srt h s
    rw [Srt, List.pairwise_iff_getElem] at hsr
    rw [ix_mid (by omega) (by omega)] at ex ey
    obtain ⟨x1, x2⟩ := List.getElem?_eq_some_iff.1 ex
    obtain ⟨y1, y2⟩ := List.getElem?_eq_some_iff.1 ey
    rw [← x2, ← y2]
    exact hsr _ _ _ _ (by omega)
theorem segSort_all {xs : List α} {n : Nat} (h : n = xs.length) : segSort c 0 n xs = isort c xs := by subst h; simp [segSort]
end
end Go.Proofs.Ytajddgpkflbnaaa
