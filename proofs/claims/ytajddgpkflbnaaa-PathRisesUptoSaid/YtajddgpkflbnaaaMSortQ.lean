/-
  Stable sorting: the steps of insertion and of merging; no program in sight.
-/
import Derived.Test.YtajddgpkflbnaaaMSortP
namespace Go.Proofs.Ytajddgpkflbnaaa
open Go Go.Av
set_option linter.unusedVariables false
set_option linter.unusedSimpArgs false

section
variable {α : Type} {c : α → α → Int}

theorem SrtIx.le (h : Cmp c) {a b : Nat} {xs : List α} (hs : SrtIx c a b xs) {i j : Nat} {x y : α} (h1 : a ≤ i) (h2 : i ≤ j) (h3 : j < b) (e1 : xs[i]? = some x) (e2 : xs[j]? = some y) : c x y ≤ 0 := by
  by_cases e : i = j
  · subst e
    rw [e1] at e2
    cases e2
    rw [h.self]
    omega
  · exact hs i j x y h1 (by omega) h3 e1 e2
theorem SrtIx.join {a m b : Nat} {xs : List α} (h1 : SrtIx c a m xs) (h2 : SrtIx c m b xs) (hx : ∀ (i j : Nat) (x y : α), a ≤ i → i < m → m ≤ j → j < b → xs[i]? = some x → xs[j]? = some y → c x y ≤ 0) : SrtIx c a b xs := by
  intro i j x y hi hij hj ex ey
  by_cases e1 : j < m
  · exact h1 i j x y hi hij e1 ex ey
  · by_cases e2 : i < m
    · exact hx i j x y hi e2 (by omega) hj ex ey
    · exact h2 i j x y (by omega) hij hj ex ey
theorem srt_one {a b : Nat} {xs : List α} (h : b ≤ a + 1) : SrtIx c a b xs := fun i j x y h1 h2 h3 => by omega

theorem rot_gen (h : Cmp c) {xs P U V S : List α} {a b p u v : Nat} (e : xs = P ++ U ++ V ++ S) (hp : P.length = p) (hu : U.length = u) (hv : V.length = v) (ha : a ≤ p) (hb : p + u + v ≤ b) (hbl : b ≤ xs.length) (S1 : SrtIx c a (p + u) xs) (S2 : SrtIx c (p + u) b xs)
    (hlt : 0 < u → 0 < v → ∀ x y, xs[p]? = some x → xs[p + u + v - 1]? = some y → c y x < 0) (hle : a < p → p + u + v < b → ∀ x y, xs[p - 1]? = some x → xs[p + u + v]? = some y → c x y ≤ 0) :
    Seg c p (p + u + v) xs (P ++ V ++ U ++ S) ∧ SrtIx c a p (P ++ V ++ U ++ S) ∧ SrtIx c p (p + v) (P ++ V ++ U ++ S) ∧ SrtIx c (p + v) (p + u + v) (P ++ V ++ U ++ S) ∧ SrtIx c (p + u + v) b (P ++ V ++ U ++ S) ∧
      ∀ (i j : Nat) (x y : α), a ≤ i → i < p + v → p + v ≤ j → j < b → (P ++ V ++ U ++ S)[i]? = some x → (P ++ V ++ U ++ S)[j]? = some y → c x y ≤ 0 := by
  have lt2 : ∀ (i j : Nat) (x y : α), p ≤ i → i < p + u → p + u ≤ j → j < p + u + v → xs[i]? = some x → xs[j]? = some y → c y x < 0 := by
    intro i j x y h1 h2 h3 h4 ex ey
    have hpl : p < xs.length := by omega
    have hel : p + u + v - 1 < xs.length := by omega
    have k1 := hlt (by omega) (by omega) _ _ (List.getElem?_eq_getElem hpl) (List.getElem?_eq_getElem hel)
    have k2 := S1.le h ha h1 (by omega) (List.getElem?_eq_getElem hpl) ex
    have k3 := S2.le h h3 (show j ≤ p + u + v - 1 by omega) (by omega) ey (List.getElem?_eq_getElem hel)
    exact h.lt_le (h.le_lt k3 k1) k2
  have hr : ∀ k : Nat, (P ++ V ++ U ++ S)[k]? = if k < p then xs[k]? else if k < p + v then xs[k + u]? else if k < p + v + u then xs[k - v]? else xs[k]? := by
    intro k; rw [rot_ix P U V S k, e, hp, hu, hv]
  refine ⟨?_, ?_, ?_, ?_, ?_, ?_⟩
  · have := rot_seg (p := P) (u := U) (v := V) (s := S) h (fun x hx y hy => by
      obtain ⟨i, hi, rfl⟩ := List.mem_iff_getElem.1 hx
      obtain ⟨j, hj, rfl⟩ := List.mem_iff_getElem.1 hy
      refine lt2 (p + i) (p + u + j) _ _ (by omega) (by omega) (by omega) (by omega) ?_ ?_
      · rw [e, List.append_assoc, List.append_assoc, List.getElem?_append_right (by omega), List.getElem?_append_left (by omega), hp, show p + i - p = i by omega, List.getElem?_eq_getElem hi]
      · rw [e, List.append_assoc, List.append_assoc, List.getElem?_append_right (by omega), List.getElem?_append_right (by omega), List.getElem?_append_left (by omega), hp, hu, show p + u + j - p - u = j by omega, List.getElem?_eq_getElem hj])
    rw [hp, hu, hv, ← e] at this
    exact this
  · intro i j x y h1 h2 h3 ex ey
    rw [hr, if_pos (by omega)] at ex ey
    exact S1 i j x y h1 h2 (by omega) ex ey
  · intro i j x y h1 h2 h3 ex ey
    rw [hr, if_neg (by omega), if_pos (by omega)] at ex ey
    exact S2 _ _ x y (by omega) (by omega) (by omega) ex ey
  · intro i j x y h1 h2 h3 ex ey
    rw [hr, if_neg (by omega), if_neg (by omega), if_pos (by omega)] at ex ey
    exact S1 _ _ x y (by omega) (by omega) (by omega) ex ey
  · intro i j x y h1 h2 h3 ex ey
    rw [hr, if_neg (by omega), if_neg (by omega), if_neg (by omega)] at ex ey
    exact S2 i j x y (by omega) h2 h3 ex ey
  · intro i j x y h1 h2 h3 h4 ex ey
    rw [hr] at ex ey
    rw [if_neg (by omega), if_neg (by omega)] at ey
    by_cases ei : i < p
    · rw [if_pos ei] at ex
      by_cases ej : j < p + v + u
      · rw [if_pos ej] at ey
        exact S1 _ _ x y (by omega) (by omega) (by omega) ex ey
      · rw [if_neg ej] at ey
        have hpl : p - 1 < xs.length := by omega
        have hel : p + u + v < xs.length := by omega
        have k1 := hle (by omega) (by omega) _ _ (List.getElem?_eq_getElem hpl) (List.getElem?_eq_getElem hel)
        have k2 := S1.le h h1 (show i ≤ p - 1 by omega) (by omega) ex (List.getElem?_eq_getElem hpl)
        have k3 := S2.le h (show p + u ≤ p + u + v by omega) (show p + u + v ≤ j by omega) h4 (List.getElem?_eq_getElem hel) ey
        exact h.tr _ _ _ (h.tr _ _ _ k2 k1) k3
    · rw [if_neg ei, if_pos h2] at ex
      by_cases ej : j < p + v + u
      · rw [if_pos ej] at ey
        have := lt2 (j - v) (i + u) y x (by omega) (by omega) (by omega) (by omega) ey ex
        omega
      · rw [if_neg ej] at ey
        exact S2 _ _ x y (by omega) (by omega) h4 ex ey

/-- One merge: what the search has found, and what is then to be merged on either side. -/
theorem merge_plan (h : Cmp c) {xs : List α} {a m b mid s e : Nat} (ham : a < m) (hmb : m < b) (hb : b ≤ xs.length) (S1 : SrtIx c a m xs) (S2 : SrtIx c m b xs) (hmid : mid = (a + b) / 2) (he : e = mid + m - s)
    (hs : (m ≤ mid ∧ a ≤ s ∧ s ≤ m) ∨ (mid < m ∧ mid + m - b ≤ s ∧ s ≤ mid))
    (hlo : (if m ≤ mid then a else mid + m - b) < s → ∀ x y, xs[e]? = some x → xs[s - 1]? = some y → ¬ c x y < 0)
    (hhi : s < (if m ≤ mid then m else mid) → ∀ x y, xs[e - 1]? = some x → xs[s]? = some y → c x y < 0) :
    ∃ P U V S, xs = P ++ U ++ V ++ S ∧ P.length = s ∧ U.length = m - s ∧ V.length = e - m ∧ a ≤ s ∧ s ≤ mid ∧ mid ≤ e ∧ e ≤ b ∧ m ≤ e ∧ (¬(s < m ∧ m < e) → P ++ V ++ U ++ S = xs) ∧
      Seg c s e xs (P ++ V ++ U ++ S) ∧ SrtIx c a s (P ++ V ++ U ++ S) ∧ SrtIx c s mid (P ++ V ++ U ++ S) ∧ SrtIx c mid e (P ++ V ++ U ++ S) ∧ SrtIx c e b (P ++ V ++ U ++ S) ∧
      segSort c mid b (segSort c a mid (P ++ V ++ U ++ S)) = segSort c a b xs ∧ (¬(a < s ∧ s < mid) → segSort c a mid (P ++ V ++ U ++ S) = P ++ V ++ U ++ S) ∧ (¬(mid < e ∧ e < b) → segSort c mid b (segSort c a mid (P ++ V ++ U ++ S)) = segSort c a mid (P ++ V ++ U ++ S)) := by
  have b1 : a ≤ s := by omega
  have b2 : s ≤ m := by omega
  have b3 : s ≤ mid := by omega
  have b4 : mid ≤ e := by omega
  have b5 : e ≤ b := by omega
  have b6 : m ≤ e := by omega
  obtain ⟨P, U, V, S, ex, hP, hU, hV⟩ := split4 b2 b6 (show e ≤ xs.length by omega)
  have z1 : s + (m - s) = m := by omega
  have z2 : s + (m - s) + (e - m) = e := by omega
  have z3 : s + (e - m) = mid := by omega
  have hg := rot_gen h ex hP hU hV b1 (by rw [z2]; exact b5) hb (by rw [z1]; exact S1) (by rw [z1]; exact S2) (by
      intro k1 k2 x y e1 e2
      rw [z2] at e2
      exact hhi (by split <;> omega) y x e2 e1)
    (by
      intro k1 k2 x y e1 e2
      rw [z2] at k2 e2
      have := hlo (by split <;> omega) y x e2 e1
      have h2 := h.anti x y
      omega)
  rw [z2, z3] at hg
  obtain ⟨g1, g2, g3, g4, g5, g6⟩ := hg
  have hlen : (P ++ V ++ U ++ S).length = xs.length := g1.len
  have hsame : ¬(s < m ∧ m < e) → P ++ V ++ U ++ S = xs := by
    intro hn
    by_cases e1 : s = m
    · have : U = [] := List.eq_nil_of_length_eq_zero (by omega)
      subst this
      rw [ex]; simp
    · have : V = [] := List.eq_nil_of_length_eq_zero (by omega)
      subst this
      rw [ex]; simp
  obtain ⟨q1, q2⟩ := segSort_seg h (show a ≤ mid by omega) (show mid ≤ (P ++ V ++ U ++ S).length by omega)
  obtain ⟨q3, q4⟩ := segSort_seg h (show mid ≤ b by omega) (show b ≤ (segSort c a mid (P ++ V ++ U ++ S)).length by rw [q1.len]; omega)
  refine ⟨P, U, V, S, ex, hP, hU, hV, b1, b3, b4, b5, b6, hsame, g1, g2, g3, g4, g5, ?_, ?_, ?_⟩
  · refine seg_sorted h (show a ≤ b by omega) hb ?_ ?_
    · exact (g1.wide b1 b5).trans ((q1.wide (Nat.le_refl _) (by omega)).trans (q3.wide (by omega) (Nat.le_refl _)))
    · refine SrtIx.join (q2.out q3 (.inl (Nat.le_refl _))) q4 ?_
      intro i j x y h1 h2 h3 h4 e1 e2
      rw [q3.out i (.inl h2)] at e1
      obtain ⟨i', i1, i2, i3⟩ := q1.inn i h1 h2
      rw [i3] at e1
      obtain ⟨j', j1, j2, j3⟩ := q3.inn j h3 h4
      rw [j3, q1.out j' (.inr j1)] at e2
      exact g6 i' j' x y i1 i2 j1 j2 e1 e2
  · intro hn
    refine (seg_sorted h (by omega) (by omega) (Seg.refl a mid _) ?_).symm
    by_cases e1 : s = a
    · subst e1; exact g3
    · have : s = mid := by omega
      subst this; exact g2
  · intro hn
    refine (seg_sorted h (by omega) (by rw [q1.len]; omega) (Seg.refl mid b _) ?_).symm
    by_cases e1 : e = mid
    · rw [e1] at g5; exact g5.out q1 (.inr (Nat.le_refl _))
    · have : e = b := by omega
      rw [this] at g4; exact g4.out q1 (.inr (Nat.le_refl _))

/-- One element is put into what stands behind it. -/
theorem ins_up (h : Cmp c) {P V S : List α} {x : α} {a b v : Nat} (hP : P.length = a) (hV : V.length = v) (hb : a + 1 + v ≤ b) (hbl : b ≤ (P ++ [x] ++ V ++ S).length) (S2 : SrtIx c (a + 1) b (P ++ [x] ++ V ++ S))
    (hlt : 0 < v → ∀ y, (P ++ [x] ++ V ++ S)[a + v]? = some y → c y x < 0) (hle : a + 1 + v < b → ∀ y, (P ++ [x] ++ V ++ S)[a + 1 + v]? = some y → ¬ c y x < 0) :
    P ++ V ++ [x] ++ S = segSort c a b (P ++ [x] ++ V ++ S) := by
  have hx : (P ++ [x] ++ V ++ S)[a]? = some x := by
    rw [List.append_assoc, List.append_assoc, List.getElem?_append_right (by omega), hP, Nat.sub_self]; rfl
  obtain ⟨g1, g2, g3, g4, g5, g6⟩ := rot_gen (a := a) (b := b) h rfl hP (show [x].length = 1 from rfl) hV (Nat.le_refl _) hb hbl (srt_one (by omega)) S2 (by
      intro k1 k2 x' y e1 e2
      rw [hx] at e1
      cases e1
      rw [show a + 1 + v - 1 = a + v by omega] at e2
      exact hlt k2 y e2) (by intro k; omega)
  refine seg_sorted h (by omega) hbl (g1.wide (Nat.le_refl _) hb) ?_
  refine SrtIx.join g3 (SrtIx.join g4 g5 ?_) g6
  intro i j x1 y h1 h2 h3 h4 e1 e2
  rw [rot_ix P [x] V S, hP, hV] at e1 e2
  rw [if_neg (by omega), if_neg (by omega), if_pos (by simp; omega), show i - v = a by omega, hx] at e1
  cases e1
  rw [if_neg (by omega), if_neg (by omega), if_neg (by simp; omega)] at e2
  have hel : a + 1 + v < (P ++ [x] ++ V ++ S).length := by omega
  have k1 := hle (by omega) _ (List.getElem?_eq_getElem hel)
  have k2 := S2.le h (show a + 1 ≤ a + 1 + v by omega) (show a + 1 + v ≤ j by omega) h4 (List.getElem?_eq_getElem hel) e2
  have k3 := h.anti x (P ++ [x] ++ V ++ S)[a + 1 + v]
  exact h.tr _ _ _ (by omega) k2

/-- One element is put into what stands ahead of it. -/
theorem ins_down (h : Cmp c) {P U S : List α} {x : α} {a p u : Nat} (hP : P.length = p) (hU : U.length = u) (ha : a ≤ p) (S1 : SrtIx c a (p + u) (P ++ U ++ [x] ++ S))
    (hlt : 0 < u → ∀ y, (P ++ U ++ [x] ++ S)[p]? = some y → c x y < 0) (hle : a < p → ∀ y, (P ++ U ++ [x] ++ S)[p - 1]? = some y → ¬ c x y < 0) :
    P ++ [x] ++ U ++ S = segSort c a (p + u + 1) (P ++ U ++ [x] ++ S) := by
  have hx : (P ++ U ++ [x] ++ S)[p + u]? = some x := by
    rw [List.append_assoc, List.append_assoc, List.getElem?_append_right (by omega), List.getElem?_append_right (by omega), hP, hU, show p + u - p - u = 0 by omega]; rfl
  have hbl : p + u + 1 ≤ (P ++ U ++ [x] ++ S).length := by simp; omega
  obtain ⟨g1, g2, g3, g4, g5, g6⟩ := rot_gen (a := a) (b := p + u + 1) h rfl hP hU (show [x].length = 1 from rfl) ha (Nat.le_refl _) hbl S1 (srt_one (by omega)) (by
      intro k1 k2 x' y e1 e2
      rw [show p + u + 1 - 1 = p + u by omega, hx] at e2
      cases e2
      exact hlt k1 x' e1) (by intro k1 k2; omega)
  refine seg_sorted h (by omega) hbl (g1.wide ha (Nat.le_refl _)) ?_
  refine SrtIx.join (SrtIx.join g2 g3 ?_) g4 ?_
  · intro i j x1 y h1 h2 h3 h4 e1 e2
    rw [rot_ix P U [x] S, hP, hU] at e1 e2
    rw [if_pos h2] at e1
    rw [if_neg (by omega), if_pos (by simp; omega), show j + u = p + u by omega, hx] at e2
    cases e2
    have hel : p - 1 < (P ++ U ++ [x] ++ S).length := by omega
    have k1 := hle (by omega) _ (List.getElem?_eq_getElem hel)
    have k2 := S1.le h h1 (show i ≤ p - 1 by omega) (by omega) e1 (List.getElem?_eq_getElem hel)
    have k3 := h.anti x (P ++ U ++ [x] ++ S)[p - 1]
    exact h.tr _ _ _ k2 (by omega)
  · intro i j x1 y h1 h2 h3 h4 e1 e2
    exact g6 i j x1 y h1 h2 h3 (by omega) e1 e2

/-- Two neighbours change places. -/
def sw (xs : List α) (j : Nat) (x y : α) : List α := (xs.set (j + 1) x).set j y
theorem sw_eq {P S : List α} {x y : α} {j : Nat} (h : P.length = j) : sw (P ++ [x] ++ [y] ++ S) j x y = P ++ [y] ++ [x] ++ S := by
  subst h
  unfold sw
  simp [List.set_append]
theorem sw_seg (h : Cmp c) {xs : List α} {j : Nat} {x y : α} (e1 : xs[j]? = some x) (e2 : xs[j + 1]? = some y) (hlt : c y x < 0) : Seg c j (j + 2) xs (sw xs j x y) := by
  obtain ⟨P, S, e, hP⟩ := split_ix e1
  rw [e, List.getElem?_append_right (by simp; omega)] at e2
  have hS : S[0]? = some y := by
    rw [← e2]; congr 1; simp; omega
  obtain ⟨S', rfl⟩ : ∃ S', S = y :: S' := by
    cases S with
    | nil => simp at hS
    | cons z S' => simp at hS; exact ⟨S', by rw [hS]⟩
  have ee : xs = P ++ [x] ++ [y] ++ S' := by rw [e]; simp
  rw [ee, sw_eq hP]
  have := rot_seg (p := P) (u := [x]) (v := [y]) (s := S') h (by intro a ha b hb; simp at ha hb; subst ha; subst hb; exact hlt)
  rw [hP] at this
  exact this
theorem sw_ix {xs : List α} {j : Nat} {x y : α} (e1 : xs[j]? = some x) (e2 : xs[j + 1]? = some y) (k : Nat) : (sw xs j x y)[k]? = if k = j then some y else if k = j + 1 then some x else xs[k]? := by
  have l1 := (List.getElem?_eq_some_iff.1 e1).1
  have l2 := (List.getElem?_eq_some_iff.1 e2).1
  unfold sw
  rw [List.getElem?_set, List.getElem?_set]
  by_cases h1 : j = k
  · subst h1; simp; omega
  · by_cases h2 : j + 1 = k
    · subst h2; simp; omega
    · rw [if_neg h1, if_neg h2, if_neg (by omega), if_neg (by omega)]

/-- While element j goes down: all others up to i are in order, and what it has passed is behind it. -/
structure Going (c : α → α → Int) (a i j : Nat) (xs : List α) : Prop where
  others : ∀ (k l : Nat) (x y : α), a ≤ k → k < l → l ≤ i → k ≠ j → l ≠ j → xs[k]? = some x → xs[l]? = some y → c x y ≤ 0
  behind : ∀ (l : Nat) (x y : α), j < l → l ≤ i → xs[j]? = some x → xs[l]? = some y → c x y ≤ 0
theorem Going.start {a i : Nat} {xs : List α} (h : SrtIx c a i xs) : Going c a i i xs := ⟨fun k l x y h1 h2 h3 h4 h5 => h k l x y h1 h2 (by omega), fun l x y h1 h2 => by omega⟩
theorem Going.step (h : Cmp c) {a i j : Nat} {xs : List α} {x y : α} (hg : Going c a i (j + 1) xs) (hj : a ≤ j) (hi : j + 1 ≤ i) (e1 : xs[j]? = some x) (e2 : xs[j + 1]? = some y) (hlt : c y x < 0) : Going c a i j (sw xs j x y) := by
  refine ⟨fun k l u v h1 h2 h3 h4 h5 eu ev => ?_, fun l u v h1 h2 eu ev => ?_⟩
  · rw [sw_ix e1 e2] at eu ev
    rw [if_neg h4] at eu
    rw [if_neg h5] at ev
    by_cases k1 : k = j + 1
    · rw [if_pos k1] at eu
      cases eu
      rw [if_neg (by omega)] at ev
      exact hg.others j l x v (by omega) (by omega) h3 (by omega) (by omega) e1 ev
    · rw [if_neg k1] at eu
      by_cases l1 : l = j + 1
      · rw [if_pos l1] at ev
        cases ev
        exact hg.others k j u x h1 (by omega) (by omega) (by omega) (by omega) eu e1
      · rw [if_neg l1] at ev
        exact hg.others k l u v h1 h2 h3 (by omega) (by omega) eu ev
  · rw [sw_ix e1 e2] at eu ev
    rw [if_pos rfl] at eu
    cases eu
    rw [if_neg (by omega)] at ev
    by_cases l1 : l = j + 1
    · rw [if_pos l1] at ev
      cases ev
      omega
    · rw [if_neg l1] at ev
      exact hg.behind l y v (by omega) h2 e2 ev
theorem Going.stop (h : Cmp c) {a i j : Nat} {xs : List α} (hg : Going c a i j xs) (hj : a ≤ j) (hi : j ≤ i) (hil : i < xs.length) (hs : a < j → ∀ x y, xs[j - 1]? = some x → xs[j]? = some y → ¬ c y x < 0) : SrtIx c a (i + 1) xs := by
  intro k l u v h1 h2 h3 eu ev
  by_cases k1 : k = j
  · subst k1; exact hg.behind l u v h2 (by omega) eu ev
  · by_cases l1 : l = j
    · subst l1
      have hjl : l - 1 < xs.length := by omega
      have q1 := hs (by omega) _ _ (List.getElem?_eq_getElem hjl) ev
      have q2 := h.anti v xs[l - 1]
      by_cases k2 : k = l - 1
      · subst k2
        rw [List.getElem?_eq_getElem hjl] at eu
        cases eu
        omega
      · have := hg.others k (l - 1) u _ h1 (by omega) (by omega) k1 (by omega) eu (List.getElem?_eq_getElem hjl)
        exact h.tr _ _ _ this (by omega)
    · exact hg.others k l u v h1 h2 (by omega) k1 l1 eu ev
end
end Go.Proofs.Ytajddgpkflbnaaa
