/-
  Calls that are handed some of the caller's objects and tokens, or hand back new ones; calls that only look.
-/
import Derived.Recover
import Derived.Test.YtmfmdehfbpkgdaaGreatDoorAvVec5
set_option linter.unusedVariables false
namespace Go.Av
open Go
set_option linter.unusedSectionVars false
variable [Globals]
def upd {α : Type} : List α → List Nat → List α → List α
  | l, [], _ => l
  | l, _ :: _, [] => l
  | l, i :: is, x :: c => upd (l.set i x) is c
def merge {α : Type} (l : List α) (is : List Nat) (c : List α) : List α := upd l is c ++ c.drop is.length
def emb (n : Nat) (is : List Nat) (k : Nat) : Nat := if k < is.length then is.getD k 0 else n + (k - is.length)
section
variable {α : Type}
theorem upd_length : ∀ (l : List α) (is : List Nat) (c : List α), (upd l is c).length = l.length
  | l, [], c => by cases c <;> rfl
  | l, _ :: _, [] => rfl
  | l, i :: is, x :: c => by rw [upd, upd_length]; simp
theorem upd_old : ∀ (l : List α) (is : List Nat) (c : List α) (j : Nat), j ∉ is → (upd l is c)[j]? = l[j]?
  | l, [], c, j, _ => by cases c <;> rfl
  | l, _ :: _, [], j, _ => rfl
  | l, i :: is, x :: c, j, h => by
    simp only [List.mem_cons, not_or] at h
    rw [upd, upd_old _ is c j h.2, List.getElem?_set_ne (Ne.symm h.1)]
theorem upd_new : ∀ (l : List α) (is : List Nat) (c : List α) (k i : Nat), is.Nodup → (∀ i ∈ is, i < l.length) → is.length ≤ c.length → is[k]? = some i → (upd l is c)[i]? = c[k]?
  | l, [], c, k, i, _, _, _, h => by simp at h
  | l, _ :: _, [], k, i, _, _, h, _ => by simp at h
  | l, i0 :: is, x :: c, 0, i, hn, hl, hc, h => by
    simp at h
    subst h
    rw [List.nodup_cons] at hn
    rw [upd, upd_old _ is c i0 hn.1, List.getElem?_set_self (hl i0 (by simp))]
    rfl
  | l, i0 :: is, x :: c, k + 1, i, hn, hl, hc, h => by
    rw [List.nodup_cons] at hn
    rw [upd, upd_new (l.set i0 x) is c k i hn.2 (fun i hi => by rw [List.length_set]; exact hl i (by simp [hi])) (by simpa using hc) (by simpa using h)]
    simp
structure Sel (n : Nat) (is : List Nat) : Prop where
  nodup : is.Nodup
  lt : ∀ i ∈ is, i < n
theorem merge_length {l : List α} {is : List Nat} {c : List α} (hc : is.length ≤ c.length) : (merge l is c).length = l.length + (c.length - is.length) := by
  unfold merge; rw [List.length_append, upd_length, List.length_drop]
theorem merge_old {l : List α} {is : List Nat} {c : List α} {j : Nat} (hj : j < l.length) (h : j ∉ is) : (merge l is c)[j]? = l[j]? := by
  unfold merge; rw [List.getElem?_append_left (by rw [upd_length]; exact hj), upd_old _ _ _ _ h]
theorem emb_lt {n : Nat} {is : List Nat} {k : Nat} (h : k < is.length) : is[k]? = some (emb n is k) := by
  unfold emb; rw [if_pos h]; simp [List.getD, h]
theorem merge_emb {l : List α} {is : List Nat} {c : List α} (hs : Sel l.length is) (hc : is.length ≤ c.length) (k : Nat) : (merge l is c)[emb l.length is k]? = c[k]? := by
  by_cases h : k < is.length
  · have he := emb_lt (n := l.length) h
    have hlt := hs.lt _ (List.mem_of_getElem? he)
    unfold merge
    rw [List.getElem?_append_left (by rw [upd_length]; exact hlt)]
    exact upd_new l is c k _ hs.nodup hs.lt hc he
  · unfold merge emb
    rw [if_neg h, List.getElem?_append_right (by rw [upd_length]; omega), upd_length, List.getElem?_drop]
    congr 1
    omega
theorem merge_cases {l : List α} {is : List Nat} {c : List α} {j : Nat} (hs : Sel l.length is) (hc : is.length ≤ c.length) (hj : j < (merge l is c).length) : (∃ k, k < c.length ∧ j = emb l.length is k) ∨ (j < l.length ∧ j ∉ is) := by
  rw [merge_length hc] at hj
  by_cases h : j < l.length
  · by_cases hm : j ∈ is
    · obtain ⟨k, hk, rfl⟩ := List.getElem_of_mem hm
      refine .inl ⟨k, by omega, ?_⟩
      have := emb_lt (n := l.length) hk
      rw [List.getElem?_eq_getElem hk] at this
      exact Option.some.inj this
    · exact .inr ⟨h, hm⟩
  · refine .inl ⟨is.length + (j - l.length), by omega, ?_⟩
    unfold emb
    rw [if_neg (by omega)]
    omega
theorem emb_inj {n : Nat} {is : List Nat} (hs : Sel n is) {k k' : Nat} (h : emb n is k = emb n is k') : k = k' := by
  by_cases h1 : k < is.length
  · have e1 := emb_lt (n := n) h1
    by_cases h2 : k' < is.length
    · have e2 := emb_lt (n := n) h2
      rw [← h] at e2
      exact (List.getElem?_inj h1 hs.nodup).1 (e1.trans e2.symm)
    · have := hs.lt _ (List.mem_of_getElem? e1)
      have e3 : emb n is k' = n + (k' - is.length) := if_neg h2
      omega
  · have e1 : emb n is k = n + (k - is.length) := if_neg h1
    by_cases h2 : k' < is.length
    · have e2 := emb_lt (n := n) h2
      have := hs.lt _ (List.mem_of_getElem? e2)
      omega
    · have e2 : emb n is k' = n + (k' - is.length) := if_neg h2
      omega
theorem emb_old {n : Nat} {is : List Nat} (hs : Sel n is) {k : Nat} (h : emb n is k < n) : k < is.length := by
  refine Classical.byContradiction fun hn => ?_
  have e1 : emb n is k = n + (k - is.length) := if_neg hn
  omega
end
def Tk.ren (ft : Nat → Nat) : Tk → Tk
  | .own k z => .own (ft k) z
  | t => t
mutual
def AV.ren (fb ft : Nat → Nat) : AV → AV
  | .agg cs => .agg (AV.renL fb ft cs)
  | .tup cs => .tup (AV.renL fb ft cs)
  | .slice xs t => .slice (AV.renL fb ft xs) (t.ren ft)
  | .ptr i off => .ptr (fb i) off
  | .rptr x => .rptr (x.ren fb ft)
  | .fn f a b => .fn f (AV.renL fb ft a) (AV.renL fb ft b)
  | .iface t x => .iface t (x.ren fb ft)
  | .map i => .map (fb i)
  | .iter i => .iter (fb i)
  | .view xs n => .view (AV.renL fb ft xs) n
  | .vec k z n lo hi => .vec (ft k) z n lo hi
  | .vptr k z n j off => .vptr (ft k) z n j off
  | .undef => .undef
  | .bool b => .bool b
  | .int k n => .int k n
  | .str s => .str s
  | .nilp => .nilp
  | .praw a => .praw a
  | .nilfn => .nilfn
  | .nili => .nili
  | .nilmap => .nilmap
def AV.renL (fb ft : Nat → Nat) : List AV → List AV
  | [] => []
  | x :: xs => x.ren fb ft :: AV.renL fb ft xs
end
theorem AV.renL_map (fb ft : Nat → Nat) : ∀ l : List AV, AV.renL fb ft l = l.map (AV.ren fb ft)
  | [] => by rw [AV.renL]; rfl
  | x :: l => by rw [AV.renL, AV.renL_map fb ft l]; rfl
mutual
theorem AV.ren_closed (fb ft : Nat → Nat) : ∀ x : AV, x.closed = true → x.ren fb ft = x
  | .undef, _ => by rw [AV.ren]
  | .bool _, _ => by rw [AV.ren]
  | .int _ _, _ => by rw [AV.ren]
  | .str _, _ => by rw [AV.ren]
  | .agg cs, h => by rw [AV.ren, AV.renL_closed fb ft cs (by simpa [AV.closed] using h)]
  | .tup cs, h => by rw [AV.ren, AV.renL_closed fb ft cs (by simpa [AV.closed] using h)]
  | .slice xs t, h => by
    simp only [AV.closed, Bool.and_eq_true] at h
    rw [AV.ren, AV.renL_closed fb ft xs h.2]
    cases t with
    | own k z => exact absurd h.1 (by simp)
    | no => rfl
    | full => rfl
    | nil => rfl
    | nn => rfl
  | .ptr _ _, h => by cases h
  | .rptr x, h => by rw [AV.ren, AV.ren_closed fb ft x (by simpa [AV.closed] using h)]
  | .nilp, _ => by rw [AV.ren]
  | .praw _, _ => by rw [AV.ren]
  | .fn _ a b, h => by
    simp only [AV.closed, Bool.and_eq_true] at h
    rw [AV.ren, AV.renL_closed fb ft a h.1, AV.renL_closed fb ft b h.2]
  | .nilfn, _ => by rw [AV.ren]
  | .iface _ x, h => by rw [AV.ren, AV.ren_closed fb ft x (by simpa [AV.closed] using h)]
  | .nili, _ => by rw [AV.ren]
  | .map _, h => by cases h
  | .nilmap, _ => by rw [AV.ren]
  | .iter _, h => by cases h
  | .view xs _, h => by rw [AV.ren, AV.renL_closed fb ft xs (by simpa [AV.closed] using h)]
  | .vec _ _ _ _ _, h => by cases h
  | .vptr _ _ _ _ _, h => by cases h
theorem AV.renL_closed (fb ft : Nat → Nat) : ∀ xs : List AV, AV.closedL xs = true → AV.renL fb ft xs = xs
  | [], _ => by rw [AV.renL]
  | x :: xs, h => by
    simp only [AV.closedL, Bool.and_eq_true] at h
    rw [AV.renL, AV.ren_closed fb ft x h.1, AV.renL_closed fb ft xs h.2]
end
structure Into (g0 g : Gh) (fb ft : Nat → Nat) : Prop where
  bx : ∀ (i b : Nat), g0.bx[i]? = some b → g.bx[fb i]? = some b
  tk : ∀ (k : Nat) (r : Rec), g0.tk[k]? = some r → g.tk[ft k]? = some r
  im : ∀ b o, g0.im b o → g.im b o
theorem InMem.into {g0 g : Gh} {w : World} (him : ∀ b o, g0.im b o → g.im b o) {b o : Nat} {V : Value} (h : InMem g0 w b o V) : InMem g w b o V := fun j u hj => ⟨him _ _ (h j u hj).1, (h j u hj).2⟩
theorem InMemE.into {g0 g : Gh} {w : World} (him : ∀ b o, g0.im b o → g.im b o) {b sz o : Nat} {Vs : List Value} (h : InMemE g0 w b sz o Vs) : InMemE g w b sz o Vs := fun i V hi => ⟨(h i V hi).1, (h i V hi).2.into him⟩
mutual
theorem Rep.ren {g0 g : Gh} {w : World} {fb ft : Nat → Nat} (hh : Into g0 g fb ft) : ∀ (x : AV) (v : Value), Rep g0 w x v → Rep g w (x.ren fb ft) v
  | .undef, _, _ => by rw [AV.ren]; trivial
  | .bool _, _, h => by rw [AV.ren]; exact h
  | .int _ _, _, h => by rw [AV.ren]; exact h
  | .str _, _, h => by rw [AV.ren]; exact h
  | .agg cs, _, ⟨vs, e, hl, h1⟩ => by rw [AV.ren]; exact ⟨vs, e, RepL.ren hh cs _ hl, h1⟩
  | .tup cs, _, ⟨vs, e, hl⟩ => by rw [AV.ren]; exact ⟨vs, e, RepL.ren hh cs _ hl⟩
  | .slice xs t, _, ⟨a, cap, sz, Vs, e, h1, h2, h3, h4, h5, h6⟩ => by
    rw [AV.ren]
    refine ⟨a, cap, sz, Vs, e, h1, h2, ?_, RepL.ren hh xs _ h4, h5, fun p hp => ⟨(h6 p hp).1, (h6 p hp).2.into hh.im⟩⟩
    cases t with
    | own k z => obtain ⟨e1, r, e2, e3⟩ := h3; exact ⟨e1, r, hh.tk _ _ e2, e3⟩
    | no => exact h3
    | full => exact h3
    | nil => exact h3
    | nn => exact h3
  | .ptr i _, _, ⟨b, h1, e⟩ => by rw [AV.ren]; exact ⟨b, hh.bx _ _ h1, e⟩
  | .rptr x, _, ⟨b, o, V, e, h1, h2⟩ => by rw [AV.ren]; exact ⟨b, o, V, e, h1.into hh.im, Rep.ren hh x _ h2⟩
  | .nilp, _, h => by rw [AV.ren]; exact h
  | .praw _, _, h => by rw [AV.ren]; exact h
  | .fn _ fs cs, _, ⟨vs, ws, e, h1, h2⟩ => by rw [AV.ren]; exact ⟨vs, ws, e, RepL.ren hh fs _ h1, RepL.ren hh cs _ h2⟩
  | .nilfn, _, h => by rw [AV.ren]; exact h
  | .iface _ x, _, ⟨u, e, h1⟩ => by rw [AV.ren]; exact ⟨u, e, Rep.ren hh x _ h1⟩
  | .nili, _, h => by rw [AV.ren]; exact h
  | .map i, _, ⟨b, h1, e⟩ => by rw [AV.ren]; exact ⟨b, hh.bx _ _ h1, e⟩
  | .nilmap, _, h => by rw [AV.ren]; exact h
  | .iter i, _, ⟨b, h1, e⟩ => by rw [AV.ren]; exact ⟨b, hh.bx _ _ h1, e⟩
  | .view xs _, _, ⟨a, cap, sz, Vs, e, h0, h1, h2, h4, h5, h6⟩ => by rw [AV.ren]; exact ⟨a, cap, sz, Vs, e, h0, h1, h2, RepL.ren hh xs _ h4, h5, fun p hp => ⟨(h6 p hp).1, (h6 p hp).2.into hh.im⟩⟩
  | .vec k _ _ _ _, _, ⟨a, cap, e, h1, h2, h3, h4, h5, r, hr, h6⟩ => by rw [AV.ren]; exact ⟨a, cap, e, h1, h2, h3, h4, h5, r, hh.tk _ _ hr, h6⟩
  | .vptr k _ _ _ _, _, ⟨b, o, e, hj, r, hr, h6⟩ => by rw [AV.ren]; exact ⟨b, o, e, hj, r, hh.tk _ _ hr, h6⟩
theorem RepL.ren {g0 g : Gh} {w : World} {fb ft : Nat → Nat} (hh : Into g0 g fb ft) : ∀ (cs : List AV) (vs : List Value), RepL g0 w cs vs → RepL g w (AV.renL fb ft cs) vs
  | [], _, h => by rw [AV.renL]; exact h
  | c :: cs, _, ⟨v, rest, e, h1, h2⟩ => by rw [AV.renL]; exact ⟨v, rest, e, Rep.ren hh c _ h1, RepL.ren hh cs _ h2⟩
end
structure Onto (g0 g : Gh) (fb ft : Nat → Nat) : Prop where
  bx : ∀ (i : Nat), i < g0.bx.length → g.bx[fb i]? = g0.bx[i]?
  tk : ∀ (k : Nat), k < g0.tk.length → g.tk[ft k]? = g0.tk[k]?
  im : ∀ b o, g.im b o → g0.im b o
mutual
theorem Rep.unren {g0 g : Gh} {w : World} {fb ft : Nat → Nat} (hh : Onto g0 g fb ft) : ∀ (x : AV) (v : Value), x.low g0.bx.length g0.tk.length = true → Rep g w (x.ren fb ft) v → Rep g0 w x v
  | .undef, _, _, _ => trivial
  | .bool _, _, _, h => by rw [AV.ren] at h; exact h
  | .int _ _, _, _, h => by rw [AV.ren] at h; exact h
  | .str _, _, _, h => by rw [AV.ren] at h; exact h
  | .agg cs, _, hc, h => by rw [AV.ren] at h; obtain ⟨vs, e, hl, h1⟩ := h; exact ⟨vs, e, RepL.unren hh cs _ (by simpa [AV.low] using hc) hl, h1⟩
  | .tup cs, _, hc, h => by rw [AV.ren] at h; obtain ⟨vs, e, hl⟩ := h; exact ⟨vs, e, RepL.unren hh cs _ (by simpa [AV.low] using hc) hl⟩
  | .slice xs t, _, hc, h => by
    rw [AV.ren] at h
    obtain ⟨a, cap, sz, Vs, e, h1, h2, h3, h4, h5, h6⟩ := h
    simp only [AV.low, Bool.and_eq_true] at hc
    refine ⟨a, cap, sz, Vs, e, h1, h2, ?_, RepL.unren hh xs _ hc.2 h4, h5, fun p hp => ⟨(h6 p hp).1, (h6 p hp).2.into hh.im⟩⟩
    cases t with
    | own k z =>
      obtain ⟨e1, r, e2, e3⟩ := h3
      exact ⟨e1, r, by rw [← hh.tk k (Nat.le_of_ble_eq_true hc.1)]; exact e2, e3⟩
    | no => exact h3
    | full => exact h3
    | nil => exact h3
    | nn => exact h3
  | .ptr i _, _, hc, h => by rw [AV.ren] at h; obtain ⟨b, h1, e⟩ := h; exact ⟨b, by rw [← hh.bx i (by simpa [AV.low] using hc)]; exact h1, e⟩
  | .rptr x, _, hc, h => by rw [AV.ren] at h; obtain ⟨b, o, V, e, h1, h2⟩ := h; exact ⟨b, o, V, e, h1.into hh.im, Rep.unren hh x _ (by simpa [AV.low] using hc) h2⟩
  | .nilp, _, _, h => by rw [AV.ren] at h; exact h
  | .praw _, _, _, h => by rw [AV.ren] at h; exact h
  | .fn _ fs cs, _, hc, h => by
    rw [AV.ren] at h
    obtain ⟨vs, ws, e, h1, h2⟩ := h
    simp only [AV.low, Bool.and_eq_true] at hc
    exact ⟨vs, ws, e, RepL.unren hh fs _ hc.1 h1, RepL.unren hh cs _ hc.2 h2⟩
  | .nilfn, _, _, h => by rw [AV.ren] at h; exact h
  | .iface _ x, _, hc, h => by rw [AV.ren] at h; obtain ⟨u, e, h1⟩ := h; exact ⟨u, e, Rep.unren hh x _ (by simpa [AV.low] using hc) h1⟩
  | .nili, _, _, h => by rw [AV.ren] at h; exact h
  | .map i, _, hc, h => by rw [AV.ren] at h; obtain ⟨b, h1, e⟩ := h; exact ⟨b, by rw [← hh.bx i (by simpa [AV.low] using hc)]; exact h1, e⟩
  | .nilmap, _, _, h => by rw [AV.ren] at h; exact h
  | .iter i, _, hc, h => by rw [AV.ren] at h; obtain ⟨b, h1, e⟩ := h; exact ⟨b, by rw [← hh.bx i (by simpa [AV.low] using hc)]; exact h1, e⟩
  | .view xs _, _, hc, h => by
    rw [AV.ren] at h
    obtain ⟨a, cap, sz, Vs, e, h0, h1, h2, h4, h5, h6⟩ := h
    exact ⟨a, cap, sz, Vs, e, h0, h1, h2, RepL.unren hh xs _ (by simpa [AV.low] using hc) h4, h5, fun p hp => ⟨(h6 p hp).1, (h6 p hp).2.into hh.im⟩⟩
  | .vec k _ _ _ _, _, hc, h => by
    rw [AV.ren] at h
    obtain ⟨a, cap, e, h1, h2, h3, h4, h5, r, hr, h6⟩ := h
    exact ⟨a, cap, e, h1, h2, h3, h4, h5, r, by rw [← hh.tk k (by simpa [AV.low] using hc)]; exact hr, h6⟩
  | .vptr k _ _ _ _, _, hc, h => by
    rw [AV.ren] at h
    obtain ⟨b, o, e, hj, r, hr, h6⟩ := h
    exact ⟨b, o, e, hj, r, by rw [← hh.tk k (by simpa [AV.low] using hc)]; exact hr, h6⟩
theorem RepL.unren {g0 g : Gh} {w : World} {fb ft : Nat → Nat} (hh : Onto g0 g fb ft) : ∀ (cs : List AV) (vs : List Value), AV.lowL g0.bx.length g0.tk.length cs = true → RepL g w (AV.renL fb ft cs) vs → RepL g0 w cs vs
  | [], _, _, h => by rw [AV.renL] at h; exact h
  | c :: cs, _, hc, h => by
    rw [AV.renL] at h
    obtain ⟨v, rest, e, h1, h2⟩ := h
    simp only [AV.lowL, Bool.and_eq_true] at hc
    exact ⟨v, rest, e, Rep.unren hh c _ hc.1 h1, RepL.unren hh cs _ hc.2 h2⟩
end
def renM (fb ft : Nat → Nat) : List (AV × AV) → List (AV × AV)
  | [] => []
  | (k, v) :: l => (k.ren fb ft, v.ren fb ft) :: renM fb ft l
def Ob.ren (fb ft : Nat → Nat) : Ob → Ob
  | .cells cs => .cells (AV.renL fb ft cs)
  | .map es => .map (renM fb ft es)
  | .iter s p => .iter s p
def Tok.ren (fb ft : Nat → Nat) : Tok → Tok
  | .len n => .len n
  | .vec xs => .vec (AV.renL fb ft xs)
theorem AV.renL_length (fb ft : Nat → Nat) (l : List AV) : (AV.renL fb ft l).length = l.length := by rw [AV.renL_map, List.length_map]
section
variable {g0 g : Gh} {w : World} {fb ft : Nat → Nat}
theorem RepM.ren (hh : Into g0 g fb ft) : ∀ (l : List (AV × AV)) (es : List MapEntry), RepM g0 w l es → RepM g w (renM fb ft l) es
  | [], _, h => h
  | (k, v) :: l, _, ⟨e, rest, he, h1, h2, h3⟩ => ⟨e, rest, he, Rep.ren hh k _ h1, Rep.ren hh v _ h2, RepM.ren hh l _ h3⟩
theorem RepM.unren (hh : Onto g0 g fb ft) : ∀ (l : List (AV × AV)) (es : List MapEntry), belowM g0.bx.length g0.tk.length l = true → RepM g w (renM fb ft l) es → RepM g0 w l es
  | [], _, _, h => h
  | (k, v) :: l, _, hb, ⟨e, rest, he, h1, h2, h3⟩ => by
    simp only [belowM, Bool.and_eq_true] at hb
    exact ⟨e, rest, he, Rep.unren hh k _ hb.1.1 h1, Rep.unren hh v _ hb.1.2 h2, RepM.unren hh l _ hb.2 h3⟩
theorem ObOk.ren (hh : Into g0 g fb ft) {b : Nat} {ob : Ob} (h : ObOk g0 w b ob) : ObOk g w b (ob.ren fb ft) := by
  cases ob with
  | cells cs => obtain ⟨vals, ty, h1, h2, h3⟩ := h; exact ⟨vals, ty, h1, RepL.ren hh cs _ h2, h3⟩
  | map es => obtain ⟨ents, clock, h1, h2⟩ := h; exact ⟨ents, clock, h1, RepM.ren hh es _ h2⟩
  | iter s p => exact h
theorem ObOk.unren (hh : Onto g0 g fb ft) {b : Nat} {ob : Ob} (hl : ob.low g0.bx.length g0.tk.length = true) (h : ObOk g w b (ob.ren fb ft)) : ObOk g0 w b ob := by
  cases ob with
  | cells cs => obtain ⟨vals, ty, h1, h2, h3⟩ := h; exact ⟨vals, ty, h1, RepL.unren hh cs _ hl h2, h3⟩
  | map es => obtain ⟨ents, clock, h1, h2⟩ := h; exact ⟨ents, clock, h1, RepM.unren hh es _ hl h2⟩
  | iter s p => exact h
theorem TokOk.ren (hh : Into g0 g fb ft) {r : Rec} {t : Tok} (h : TokOk g0 w r t) : TokOk g w r (t.ren fb ft) := by
  cases t with
  | len n => exact h
  | vec xs => obtain ⟨h1, h2, h3, Vs, h4, h5⟩ := h; exact ⟨by rw [AV.renL_length]; exact h1, h2, h3, Vs, RepL.ren hh xs _ h4, h5⟩
theorem TokOk.unren (hh : Onto g0 g fb ft) {r : Rec} {t : Tok} (hl : t.low g0.bx.length g0.tk.length = true) (h : TokOk g w r (t.ren fb ft)) : TokOk g0 w r t := by
  cases t with
  | len n => exact h
  | vec xs => obtain ⟨h1, h2, h3, Vs, h4, h5⟩ := h; exact ⟨by rw [AV.renL_length] at h1; exact h1, h2, h3, Vs, RepL.unren hh xs _ hl h4, h5⟩
end
def Gh.pick (g : Gh) (bs ts : List Nat) : Gh := ⟨bs.filterMap (g.bx[·]?), ts.filterMap (g.tk[·]?), g.im⟩
theorem pick_len {α : Type} {l : List α} : ∀ {is : List Nat}, (∀ i ∈ is, i < l.length) → (is.filterMap (l[·]?)).length = is.length
  | [], _ => rfl
  | i :: is, h => by
    have hi := h i (by simp)
    have ih := pick_len (is := is) fun j hj => h j (by simp [hj])
    rw [List.filterMap_cons, List.getElem?_eq_getElem hi]
    simp only [List.length_cons, ih]
theorem pick_get {α : Type} {l : List α} : ∀ {is : List Nat} (k : Nat), (∀ i ∈ is, i < l.length) → (is.filterMap (l[·]?))[k]? = (is[k]?).bind (l[·]?)
  | [], k, _ => by simp
  | i :: is, 0, h => by
    have hi := h i (by simp)
    rw [List.filterMap_cons, List.getElem?_eq_getElem hi]
    simp
  | i :: is, k + 1, h => by
    have hi := h i (by simp)
    rw [List.filterMap_cons, List.getElem?_eq_getElem hi]
    simp only [List.getElem?_cons_succ]
    exact pick_get k fun j hj => h j (by simp [hj])
section
variable {g : Gh} {σ : St} {w : World}
theorem nodup_of {α : Type} {l : List α} (h : ∀ a b, a < b → b < l.length → l[a]? = l[b]? → False) : l.Nodup :=
  List.pairwise_iff_getElem.2 fun i j hi hj hij e => h i j hij hj (by rw [List.getElem?_eq_getElem hi, List.getElem?_eq_getElem hj, e])
theorem pick_inv (hi : Inv g σ w) {bs ts : List Nat} (hb : Sel σ.B.length bs) (ht : Sel σ.T.length ts) {B0 : List Ob} {T0 : List Tok} (hB0 : B0.length = bs.length) (hT0 : T0.length = ts.length)
    (hob : ∀ (k i : Nat) (ob : Ob), bs[k]? = some i → B0[k]? = some ob → σ.B[i]? = some (ob.ren (emb σ.B.length bs) (emb σ.T.length ts))) (htk : ∀ (k i : Nat) (t : Tok), ts[k]? = some i → T0[k]? = some t → σ.T[i]? = some (t.ren (emb σ.B.length bs) (emb σ.T.length ts)))
    (hlB : belowB bs.length ts.length B0 = true) (hlT : belowT bs.length ts.length T0 = true) :
    Inv (g.pick bs ts) ⟨B0, T0⟩ w ∧ Onto (g.pick bs ts) g (emb σ.B.length bs) (emb σ.T.length ts) ∧ (g.pick bs ts).bx.length = bs.length ∧ (g.pick bs ts).tk.length = ts.length := by
  have hb' : ∀ i ∈ bs, i < g.bx.length := fun i h => by rw [hi.lenB]; exact hb.lt i h
  have ht' : ∀ i ∈ ts, i < g.tk.length := fun i h => by rw [hi.lenT]; exact ht.lt i h
  have lb : (g.pick bs ts).bx.length = bs.length := pick_len hb'
  have lt : (g.pick bs ts).tk.length = ts.length := pick_len ht'
  have gb : ∀ k : Nat, (g.pick bs ts).bx[k]? = (bs[k]?).bind (g.bx[·]?) := fun k => pick_get k hb'
  have gt : ∀ k : Nat, (g.pick bs ts).tk[k]? = (ts[k]?).bind (g.tk[·]?) := fun k => pick_get k ht'
  have hon : Onto (g.pick bs ts) g (emb σ.B.length bs) (emb σ.T.length ts) := by
    refine ⟨fun i hil => ?_, fun k hkl => ?_, fun _ _ h => h⟩
    · rw [gb, emb_lt (n := σ.B.length) (is := bs) (by rw [← lb]; exact hil)]; rfl
    · rw [gt, emb_lt (n := σ.T.length) (is := ts) (by rw [← lt]; exact hkl)]; rfl
  refine ⟨⟨by rw [lb]; exact hB0.symm, by rw [lt]; exact hT0.symm, fun k b ob h1 h2 => ?_, ?_, fun b hbm o => ?_, fun k t r h1 h2 => ?_, fun k r h1 b o ho => ?_, fun k k' r r' hne h1 h2 => ?_, hi.imlt, hi.gl⟩, hon, lb, lt⟩
  · rw [gb] at h1
    obtain ⟨i, e1, e2⟩ := Option.bind_eq_some_iff.1 h1
    exact (hi.ob i b _ e2 (hob k i ob e1 h2)).unren hon (by rw [lb, lt]; exact belowB_get hlB h2)
  · refine nodup_of fun a b hab hbl e => ?_
    have hbl' : b < bs.length := by rw [← lb]; exact hbl
    have e1 := emb_lt (n := σ.B.length) (show a < bs.length by omega)
    have e2 := emb_lt (n := σ.B.length) hbl'
    rw [gb, gb, e1, e2] at e
    simp only [Option.bind_some] at e
    have h1 : emb σ.B.length bs a < g.bx.length := hb' _ (List.mem_of_getElem? e1)
    have := (List.getElem?_inj h1 hi.nodup).1 e
    have := emb_inj hb this
    omega
  · obtain ⟨k, hk⟩ := List.getElem?_of_mem hbm
    rw [gb] at hk
    obtain ⟨i, e1, e2⟩ := Option.bind_eq_some_iff.1 hk
    exact hi.noim b (List.mem_of_getElem? e2) o
  · rw [gt] at h1
    obtain ⟨i, e1, e2⟩ := Option.bind_eq_some_iff.1 h1
    exact (hi.tok i _ r e2 (htk k i t e1 h2)).unren hon (by rw [lb, lt]; exact belowT_get hlT h2)
  · rw [gt] at h1
    obtain ⟨i, e1, e2⟩ := Option.bind_eq_some_iff.1 h1
    obtain ⟨z1, z2, z3, z4⟩ := hi.tkz i r e2 b o ho
    refine ⟨z1, fun hm => ?_, z3, z4⟩
    obtain ⟨k', hk'⟩ := List.getElem?_of_mem hm
    rw [gb] at hk'
    obtain ⟨i', e1', e2'⟩ := Option.bind_eq_some_iff.1 hk'
    exact z2 (List.mem_of_getElem? e2')
  · rw [gt] at h1 h2
    obtain ⟨i, e1, e2⟩ := Option.bind_eq_some_iff.1 h1
    obtain ⟨i', e1', e2'⟩ := Option.bind_eq_some_iff.1 h2
    refine hi.tkd i i' r r' (fun e => ?_) e2 e2'
    subst e
    have hkl : k < ts.length := (List.getElem?_eq_some_iff.1 e1).1
    exact hne ((List.getElem?_inj hkl ht.nodup).1 (e1.trans e1'.symm))
theorem join_inv (hi : Inv g σ w) {bs ts : List Nat} (hb : Sel σ.B.length bs) (ht : Sel σ.T.length ts) {g1 : Gh} {w' : World} {B1 : List Ob} {T1 : List Tok} (hlb : (g.pick bs ts).bx.length = bs.length) (hlt : (g.pick bs ts).tk.length = ts.length)
    (hon : Onto (g.pick bs ts) g (emb σ.B.length bs) (emb σ.T.length ts)) (hx : Ext (g.pick bs ts) w g1 w') (hi1 : Inv g1 ⟨B1, T1⟩ w') :
    ∃ g', Ext g w g' w' ∧ Inv g' ⟨merge σ.B bs (B1.map (Ob.ren (emb σ.B.length bs) (emb σ.T.length ts))), merge σ.T ts (T1.map (Tok.ren (emb σ.B.length bs) (emb σ.T.length ts)))⟩ w' ∧ Into g1 g' (emb σ.B.length bs) (emb σ.T.length ts) := by
  have lB := hi.lenB
  have lT := hi.lenT
  have l1B : g1.bx.length = B1.length := hi1.lenB
  have l1T : g1.tk.length = T1.length := hi1.lenT
  have hb' : Sel g.bx.length bs := by rw [lB]; exact hb
  have ht' : Sel g.tk.length ts := by rw [lT]; exact ht
  have pb : bs.length ≤ g1.bx.length := by
    rcases Nat.eq_zero_or_pos bs.length with e | e
    · omega
    · have h1 : bs.length - 1 < (g.pick bs ts).bx.length := by omega
      have := hx.le.bx _ _ (List.getElem?_eq_getElem h1)
      have := (List.getElem?_eq_some_iff.1 this).1
      omega
  have pt : ts.length ≤ g1.tk.length := by
    rcases Nat.eq_zero_or_pos ts.length with e | e
    · omega
    · have h1 : ts.length - 1 < (g.pick bs ts).tk.length := by omega
      obtain ⟨r', h2, _⟩ := hx.le.tk _ _ (List.getElem?_eq_getElem h1)
      have := (List.getElem?_eq_some_iff.1 h2).1
      omega
  let fb := emb σ.B.length bs
  let ft := emb σ.T.length ts
  let g' : Gh := ⟨merge g.bx bs g1.bx, merge g.tk ts g1.tk, g1.im⟩
  have efb : fb = emb g.bx.length bs := by rw [lB]
  have eft : ft = emb g.tk.length ts := by rw [lT]
  have gbx : ∀ k : Nat, g'.bx[fb k]? = g1.bx[k]? := fun k => by rw [efb]; exact merge_emb hb' pb k
  have gtk : ∀ k : Nat, g'.tk[ft k]? = g1.tk[k]? := fun k => by rw [eft]; exact merge_emb ht' pt k
  have hinto : Into g1 g' fb ft := ⟨fun i b h => by rw [gbx]; exact h, fun k r h => by rw [gtk]; exact h, fun _ _ h => h⟩
  have pk : ∀ (k : Nat) (r : Rec), (g.pick bs ts).tk[k]? = some r → g.tk[ft k]? = some r := fun k r h => by
    rw [hon.tk k (List.getElem?_eq_some_iff.1 h).1]; exact h
  have pkb : ∀ b, b ∈ (g.pick bs ts).bx → b ∈ g.bx := fun b h => by
    obtain ⟨k, hk⟩ := List.getElem?_of_mem h
    have := hon.bx k (List.getElem?_eq_some_iff.1 hk).1
    rw [hk] at this
    exact List.mem_of_getElem? this
  have newb : ∀ b, b ∈ g1.bx → b ∈ (g.pick bs ts).bx ∨ w.heap.size ≤ b := hx.newbx
  have newz : ∀ (k : Nat) (r : Rec), g1.tk[k]? = some r → ∀ b o, r.zone b o → w.heap.size ≤ b ∨ ∃ r0, g.tk[ft k]? = some r0 ∧ r0.zone b o := fun k r h b o ho => by
    rcases hx.newz k r h b o ho with h | ⟨r0, h1, h2⟩
    · exact .inl h
    · exact .inr ⟨r0, pk k r0 h1, h2⟩
  have newim : ∀ b o, g1.im b o → g.im b o ∨ w.heap.size ≤ b ∨ ∃ (k : Nat) (r : Rec), k < ts.length ∧ g.tk[ft k]? = some r ∧ r.zone b o := fun b o h => by
    rcases hx.newim b o h with h | h | ⟨k, r, h1, h2⟩
    · exact .inl h
    · exact .inr (.inl h)
    · exact .inr (.inr ⟨k, r, by rw [← hlt]; exact (List.getElem?_eq_some_iff.1 h1).1, pk k r h1, h2⟩)
  have mbx : ∀ b, b ∈ g'.bx → b ∈ g.bx ∨ b ∈ g1.bx := fun b h => by
    obtain ⟨j, hj⟩ := List.getElem?_of_mem h
    rcases merge_cases hb' pb (List.getElem?_eq_some_iff.1 hj).1 with ⟨k, hk, rfl⟩ | ⟨h1, h2⟩
    · rw [merge_emb hb' pb] at hj; exact .inr (List.mem_of_getElem? hj)
    · rw [merge_old h1 h2] at hj; exact .inl (List.mem_of_getElem? hj)
  have tk_cases : ∀ (j : Nat) (r : Rec), g'.tk[j]? = some r → (∃ k, j = ft k ∧ g1.tk[k]? = some r) ∨ (j ∉ ts ∧ j < g.tk.length ∧ g.tk[j]? = some r) := fun j r hj => by
    rcases merge_cases ht' pt (List.getElem?_eq_some_iff.1 hj).1 with ⟨k, hk, rfl⟩ | ⟨h1, h2⟩
    · rw [merge_emb ht' pt] at hj; exact .inl ⟨k, by rw [eft], hj⟩
    · rw [merge_old h1 h2] at hj; exact .inr ⟨h2, h1, hj⟩
  have ftmem : ∀ k, k < ts.length → ft k ∈ ts := fun k hk => List.mem_of_getElem? (emb_lt (n := σ.T.length) hk)
  have fblt : ∀ k, k < bs.length → fb k ∈ bs := fun k hk => List.mem_of_getElem? (emb_lt (n := σ.B.length) hk)
  have oldz : ∀ (j : Nat) (r : Rec), j ∉ ts → g.tk[j]? = some r → ∀ b o, r.zone b o → b < w.heap.size ∧ b ∉ (g.pick bs ts).bx ∧ (∀ (k : Nat) (r0 : Rec), (g.pick bs ts).tk[k]? = some r0 → ¬ r0.zone b o) := fun j r hj hr b o ho => by
    refine ⟨hi.z_lt hr ho, fun h => (hi.tkz j r hr b o ho).2.1 (pkb b h), fun k r0 hk ho' => ?_⟩
    have hkl : k < ts.length := by rw [← hlt]; exact (List.getElem?_eq_some_iff.1 hk).1
    exact hi.tkd j (ft k) r r0 (fun e => hj (e ▸ ftmem k hkl)) hr (pk k r0 hk) b o ho ho'
  have hle : Le g w g' w' := by
    refine ⟨fun b o h => hx.le.im b o h, fun i b h => ?_, fun j r h => ?_⟩
    · by_cases hm : i ∈ bs
      · obtain ⟨k, hk, rfl⟩ := List.getElem_of_mem hm
        have e1 := emb_lt (n := σ.B.length) hk
        rw [List.getElem?_eq_getElem hk] at e1
        have e2 : bs[k] = fb k := Option.some.inj e1
        rw [e2] at h ⊢
        rw [gbx]
        refine hx.le.bx k b ?_
        rw [← hon.bx k (by omega)]
        exact h
      · exact (merge_old (List.getElem?_eq_some_iff.1 h).1 hm).trans h
    · by_cases hm : j ∈ ts
      · obtain ⟨k, hk, rfl⟩ := List.getElem_of_mem hm
        have e1 := emb_lt (n := σ.T.length) hk
        rw [List.getElem?_eq_getElem hk] at e1
        have e2 : ts[k] = ft k := Option.some.inj e1
        rw [e2] at h ⊢
        rw [gtk]
        refine hx.le.tk k r ?_
        rw [← hon.tk k (by omega)]
        exact h
      · exact ⟨r, (merge_old (List.getElem?_eq_some_iff.1 h).1 hm).trans h, .inl rfl⟩
  refine ⟨g', ⟨hle, hx.size, hx.os, hx.tape, hx.output, fun b hbs hn hz => hx.fr b hbs (fun h => hn (pkb b h)) (fun k r hr o => hz (ft k) r (pk k r hr) o), fun b o hbs hn hz => hx.frc b o hbs (fun h => hn (pkb b h)) (fun k r hr => hz (ft k) r (pk k r hr)), fun b o h => ?_, fun b h => ?_, fun j r h b o ho => ?_⟩, ?_, hinto⟩
  · rcases newim b o h with h | h | ⟨k, r, _, h1, h2⟩
    · exact .inl h
    · exact .inr (.inl h)
    · exact .inr (.inr ⟨ft k, r, h1, h2⟩)
  · rcases mbx b h with h | h
    · exact .inl h
    · rcases newb b h with h | h
      · exact .inl (pkb b h)
      · exact .inr h
  · rcases tk_cases j r h with ⟨k, rfl, hk⟩ | ⟨_, _, hj⟩
    · exact newz k r hk b o ho
    · exact .inr ⟨r, hj, ho⟩
  · have lmB : bs.length ≤ (B1.map (Ob.ren fb ft)).length := by rw [List.length_map]; omega
    have lmT : ts.length ≤ (T1.map (Tok.ren fb ft)).length := by rw [List.length_map]; omega
    have gB : ∀ k : Nat, (merge σ.B bs (B1.map (Ob.ren fb ft)))[fb k]? = (B1.map (Ob.ren fb ft))[k]? := fun k => merge_emb hb lmB k
    have gT : ∀ k : Nat, (merge σ.T ts (T1.map (Tok.ren fb ft)))[ft k]? = (T1.map (Tok.ren fb ft))[k]? := fun k => merge_emb ht lmT k
    refine ⟨?_, ?_, fun j b ob h1 h2 => ?_, ?_, fun b h o hm => ?_, fun j t r h1 h2 => ?_, fun j r h b o ho => ?_, fun j j' r r' hne h1 h2 b o ho ho' => ?_, hi1.imlt, hi1.gl⟩
    · show (merge g.bx bs g1.bx).length = (merge σ.B bs _).length
      rw [merge_length pb, merge_length lmB, List.length_map, lB, l1B]
    · show (merge g.tk ts g1.tk).length = (merge σ.T ts _).length
      rw [merge_length pt, merge_length lmT, List.length_map, lT, l1T]
    · rcases merge_cases hb' pb (List.getElem?_eq_some_iff.1 h1).1 with ⟨k, hk, e⟩ | ⟨e1, e2⟩
      · rw [← efb] at e
        subst e
        rw [gbx] at h1
        have h2' : (B1.map (Ob.ren fb ft))[k]? = some ob := by rw [← gB]; exact h2
        rw [List.getElem?_map, Option.map_eq_some_iff] at h2'
        obtain ⟨ob0, e3, rfl⟩ := h2'
        exact (hi1.ob k b ob0 h1 e3).ren hinto
      · have h1' : g.bx[j]? = some b := by rw [← merge_old (c := g1.bx) e1 e2]; exact h1
        have h2' : σ.B[j]? = some ob := by rw [← merge_old (c := B1.map (Ob.ren fb ft)) (by omega) e2]; exact h2
        refine (hi.ob j b ob h1' h2').mono hle (hx.fr b (hi.bx_lt (List.mem_of_getElem? h1')) (fun hm => ?_) (fun k r hr o ho => (hi.tkz (ft k) r (pk k r hr) b o ho).2.1 (List.mem_of_getElem? h1')))
        obtain ⟨k, hk⟩ := List.getElem?_of_mem hm
        have hkl : k < bs.length := by rw [← hlb]; exact (List.getElem?_eq_some_iff.1 hk).1
        have h3 := hon.bx k (by omega)
        rw [hk] at h3
        have := (List.getElem?_inj (List.getElem?_eq_some_iff.1 h1').1 hi.nodup).1 (h1'.trans h3.symm)
        exact e2 (this ▸ fblt k hkl)
    · refine nodup_of fun a b hab hbl e => ?_
      have hal : a < g'.bx.length := Nat.lt_trans hab hbl
      rcases merge_cases hb' pb hal with ⟨k, hk, ea⟩ | ⟨a1, a2⟩ <;> rcases merge_cases hb' pb hbl with ⟨k', hk', eb⟩ | ⟨b1, b2⟩
      · rw [← efb] at ea eb
        rw [ea, eb, gbx, gbx] at e
        have := (List.getElem?_inj hk hi1.nodup).1 e
        subst this
        omega
      · -- the callee's against an old one
        rw [← efb] at ea
        rw [ea, gbx, List.getElem?_eq_getElem hk] at e
        have e' : g.bx[b]? = some g1.bx[k] := by rw [← merge_old (c := g1.bx) b1 b2]; exact e.symm
        rcases newb g1.bx[k] (List.getElem_mem hk) with h | h
        · obtain ⟨k2, hk2⟩ := List.getElem?_of_mem h
          have hk2l : k2 < bs.length := by rw [← hlb]; exact (List.getElem?_eq_some_iff.1 hk2).1
          have h3 := hon.bx k2 (by omega)
          rw [hk2] at h3
          have := (List.getElem?_inj b1 hi.nodup).1 (e'.trans h3.symm)
          exact b2 (this ▸ fblt k2 hk2l)
        · have := hi.bx_lt (List.mem_of_getElem? e'); omega
      · rw [← efb] at eb
        rw [eb, gbx, List.getElem?_eq_getElem hk'] at e
        have e' : g.bx[a]? = some g1.bx[k'] := by rw [← merge_old (c := g1.bx) a1 a2]; exact e
        rcases newb g1.bx[k'] (List.getElem_mem hk') with h | h
        · obtain ⟨k2, hk2⟩ := List.getElem?_of_mem h
          have hk2l : k2 < bs.length := by rw [← hlb]; exact (List.getElem?_eq_some_iff.1 hk2).1
          have h3 := hon.bx k2 (by omega)
          rw [hk2] at h3
          have := (List.getElem?_inj a1 hi.nodup).1 (e'.trans h3.symm)
          exact a2 (this ▸ fblt k2 hk2l)
        · have := hi.bx_lt (List.mem_of_getElem? e'); omega
      · have e' : g.bx[a]? = g.bx[b]? := by rw [← merge_old (c := g1.bx) a1 a2, ← merge_old (c := g1.bx) b1 b2]; exact e
        have := (List.getElem?_inj a1 hi.nodup).1 e'
        omega
    · rcases mbx b h with h | h
      · rcases newim b o hm with hm | hm | ⟨k, r, _, h1, h2⟩
        · exact hi.noim b h o hm
        · have := hi.bx_lt h; omega
        · exact (hi.tkz _ r h1 b o h2).2.1 h
      · exact hi1.noim b h o hm
    · rcases tk_cases j r h1 with ⟨k, rfl, hk⟩ | ⟨e1, e2, hj⟩
      · have h2' : (T1.map (Tok.ren fb ft))[k]? = some t := by rw [← gT]; exact h2
        rw [List.getElem?_map, Option.map_eq_some_iff] at h2'
        obtain ⟨t0, e3, rfl⟩ := h2'
        exact (hi1.tok k t0 r hk e3).ren hinto
      · have h2' : σ.T[j]? = some t := by rw [← merge_old (c := T1.map (Tok.ren fb ft)) (by omega) e1]; exact h2
        refine (hi.tok j t r hj h2').mono hle fun b o ho => ?_
        obtain ⟨z1, z2, z3⟩ := oldz j r e1 hj b o ho
        exact (hx.frc b o z1 z2 z3).1
    · rcases tk_cases j r h with ⟨k, rfl, hk⟩ | ⟨e1, e2, hj⟩
      · obtain ⟨z1, z2, z3, z4⟩ := hi1.tkz k r hk b o ho
        refine ⟨z1, fun hm => ?_, z3, z4⟩
        rcases mbx b hm with hm | hm
        · rcases newz k r hk b o ho with h | ⟨r0, h1, h2⟩
          · have := hi.bx_lt hm; omega
          · exact (hi.tkz _ r0 h1 b o h2).2.1 hm
        · exact z2 hm
      · obtain ⟨z1, z2, z3, z4⟩ := hi.tkz j r hj b o ho
        obtain ⟨y1, y2, y3⟩ := oldz j r e1 hj b o ho
        have hc := hx.frc b o y1 y2 y3
        refine ⟨fun hm => ?_, fun hm => ?_, by rw [hc.1]; exact z3, hc.2.trans z4⟩
        · rcases newim b o hm with hm | hm | ⟨k, r0, hkl, h1, h2⟩
          · exact z1 hm
          · omega
          · exact hi.tkd j (ft k) r r0 (fun e => e1 (e ▸ ftmem k hkl)) hj h1 b o ho h2
        · rcases mbx b hm with hm | hm
          · exact z2 hm
          · rcases newb b hm with hm | hm
            · exact y2 hm
            · omega
    · rcases tk_cases j r h1 with ⟨k, rfl, hk⟩ | ⟨e1, e2, hj⟩ <;> rcases tk_cases j' r' h2 with ⟨k', rfl, hk'⟩ | ⟨e1', e2', hj'⟩
      · exact hi1.tkd k k' r r' (fun e => hne (by rw [e])) hk hk' b o ho ho'
      · rcases newz k r hk b o ho with h | ⟨r0, h3, h4⟩
        · have := hi.z_lt hj' ho'; omega
        · have hkl : k < ts.length := emb_old ht (by have h9 := (List.getElem?_eq_some_iff.1 h3).1; rw [lT] at h9; exact h9)
          exact hi.tkd (ft k) j' r0 r' (fun e => e1' (e ▸ ftmem k hkl)) h3 hj' b o h4 ho'
      · rcases newz k' r' hk' b o ho' with h | ⟨r0, h3, h4⟩
        · have := hi.z_lt hj ho; omega
        · have hkl : k' < ts.length := emb_old ht (by have h9 := (List.getElem?_eq_some_iff.1 h3).1; rw [lT] at h9; exact h9)
          exact hi.tkd (ft k') j r0 r (fun e => e1 (e ▸ ftmem k' hkl)) h3 hj b o h4 ho
      · exact hi.tkd j j' r r' hne hj hj' b o ho ho'
end
end Go.Av
set_option linter.unusedVariables false
namespace Go.Av
open Go
set_option linter.unusedSectionVars false
variable [Globals]
mutual
def AV.flat : AV → Bool
  | .undef | .bool _ | .int _ _ | .str _ | .nilp | .praw _ | .nilfn | .nili | .nilmap => true
  | .agg cs => AV.flatL cs
  | .tup cs => AV.flatL cs
  | .slice xs t => xs.isEmpty && (match t with | .own _ _ => false | _ => true)
  | .iface _ x => x.flat
  | .fn _ a b => AV.flatL a && AV.flatL b
  | _ => false
def AV.flatL : List AV → Bool
  | [] => true
  | x :: xs => x.flat && AV.flatL xs
end
mutual
theorem Rep.flat {g g' : Gh} {w w' : World} : ∀ (x : AV) (v : Value), x.flat = true → Rep g w x v → Rep g' w' x v
  | .undef, _, _, _ => trivial
  | .bool _, _, _, h => h
  | .int _ _, _, _, h => h
  | .str _, _, _, h => h
  | .agg cs, _, hc, ⟨vs, e, hl, h1⟩ => ⟨vs, e, RepL.flat cs _ hc hl, h1⟩
  | .tup cs, _, hc, ⟨vs, e, hl⟩ => ⟨vs, e, RepL.flat cs _ hc hl⟩
  | .slice xs t, _, hc, ⟨a, cap, sz, Vs, e, h1, h2, h3, h4, h5, h6⟩ => by
    simp only [AV.flat, Bool.and_eq_true, List.isEmpty_iff] at hc
    obtain ⟨rfl, ht⟩ := hc
    have hV : Vs = [] := h4
    subst hV
    refine ⟨a, cap, sz, [], e, h1, h2, ?_, rfl, h5, fun p hp => ⟨.inr rfl, fun i V hi => by simp at hi⟩⟩
    cases t with
    | own k z => cases ht
    | no => exact h3
    | full => exact h3
    | nil => exact h3
    | nn => exact h3
  | .ptr _ _, _, hc, _ => by cases hc
  | .rptr _, _, hc, _ => by cases hc
  | .nilp, _, _, h => h
  | .praw _, _, _, h => h
  | .fn _ fs cs, _, hc, ⟨vs, ws, e, h1, h2⟩ => by
    simp only [AV.flat, Bool.and_eq_true] at hc
    exact ⟨vs, ws, e, RepL.flat fs _ hc.1 h1, RepL.flat cs _ hc.2 h2⟩
  | .nilfn, _, _, h => h
  | .iface _ x, _, hc, ⟨u, e, h1⟩ => ⟨u, e, Rep.flat x _ hc h1⟩
  | .nili, _, _, h => h
  | .map _, _, hc, _ => by cases hc
  | .nilmap, _, _, h => h
  | .iter _, _, hc, _ => by cases hc
  | .view _ _, _, hc, _ => by cases hc
  | .vec _ _ _ _ _, _, hc, _ => by cases hc
  | .vptr _ _ _ _ _, _, hc, _ => by cases hc
theorem RepL.flat {g g' : Gh} {w w' : World} : ∀ (cs : List AV) (vs : List Value), AV.flatL cs = true → RepL g w cs vs → RepL g' w' cs vs
  | [], _, _, h => h
  | c :: cs, _, hc, ⟨v, rest, e, h1, h2⟩ => by
    simp only [AV.flatL, Bool.and_eq_true] at hc
    exact ⟨v, rest, e, Rep.flat c _ hc.1 h1, RepL.flat cs _ hc.2 h2⟩
end
def Gh.all (w : World) : Gh := ⟨[], [], fun b _ => b < w.heap.size⟩
def Look (σ : St) (x y : AV) : Prop := ∀ (g : Gh) (w : World) (v : Value), Inv g σ w → Rep g w x v → Rep (Gh.all w) w y v
def LookL (σ : St) (xs ys : List AV) : Prop := ∀ (g : Gh) (w : World) (vs : List Value), Inv g σ w → RepL g w xs vs → RepL (Gh.all w) w ys vs
theorem le_all {g : Gh} {σ : St} {w : World} (hi : Inv g σ w) : Le ⟨[], [], g.im⟩ w (Gh.all w) w := ⟨fun b o h => ⟨hi.imlt b o h, rfl⟩, fun _ _ h => by simp at h, fun _ _ h => by simp at h⟩
theorem LookL.nil {σ : St} : LookL σ [] [] := fun _ _ _ _ h => h
theorem LookL.cons {σ : St} {x y : AV} {xs ys : List AV} (h : Look σ x y) (hs : LookL σ xs ys) : LookL σ (x :: xs) (y :: ys) := fun g w _ hi ⟨v, rest, e, h1, h2⟩ => ⟨v, rest, e, h g w v hi h1, hs g w rest hi h2⟩
theorem Look.closed {σ : St} {x : AV} (h : x.closed = true) : Look σ x x := fun g w v hi hr => Rep.mono (le_all hi) _ _ (Rep.close (bx := g.bx) (tk := g.tk) (im := g.im) x v h hr)
theorem LookL.closed {σ : St} {xs : List AV} (h : AV.closedL xs = true) : LookL σ xs xs := fun g w v hi hr => RepL.mono (le_all hi) _ _ (RepL.close (bx := g.bx) (tk := g.tk) (im := g.im) xs v h hr)
theorem Look.vec {σ : St} {k z n lo hi : Nat} {xs ys : List AV} (hT : σ.T[k]? = some (.vec xs)) (hn : xs.length = n) (h : LookL σ xs ys) : Look σ (.vec k z n lo hi) (.slice ((ys.take hi).drop lo) .no) := fun g w v hI hr => by
  obtain ⟨r, Vs, hv⟩ := vec_at hI hr hT hn
  obtain ⟨a, cap, rfl, h1, h2, h3, h4, h5, r0, hr0, hz, hle, h6⟩ := hr
  have : r0 = r := Option.some.inj (hr0.symm.trans hv.hr)
  subst this
  obtain ⟨l1, l2, l3⟩ := h6 (by rw [hv.n, hn])
  have hvl : Vs.length = n := by rw [hv.len, hn]
  refine ⟨a, cap - lo, z, (Vs.take hi).drop lo, ?_, ?_, by omega, trivial, ((h g w _ hI hv.rep).take hi).drop lo, fun e => ?_, fun q hq => ?_⟩
  · have : ((Vs.take hi).drop lo).length = hi - lo := by simp; omega
    rw [this]
  · simp; omega
  · have hcl : ¬ lo < cap := fun hc => by obtain ⟨b, o, hh⟩ := h5 hc; rw [e] at hh; cases hh
    have hnil : (Vs.take hi).drop lo = [] := by apply List.eq_nil_of_length_eq_zero; simp; omega
    exact ⟨hnil, by omega⟩
  · by_cases hlc : lo < cap
    · obtain ⟨p, hp, hps, hpa⟩ := l3 hlc
      rw [hq] at hpa
      cases hpa
      refine ⟨.inl rfl, fun i V hi' => ?_⟩
      rw [List.getElem?_drop] at hi'
      have hV : Vs[lo + i]? = some V := by
        rw [List.getElem?_take] at hi'
        split at hi'
        · exact hi'
        · cases hi'
      obtain ⟨m1, m2⟩ := (hv.mem p hp).2 (lo + i) V hV
      refine ⟨m1, fun j x hj => ?_⟩
      obtain ⟨_, m3, m4⟩ := m2 j x hj
      have hadd : p.off + (lo + i) * z + j = p.off + lo * z + i * z + j := by rw [Nat.add_mul]; omega
      rw [hadd] at m3
      refine ⟨?_, m3, m4⟩
      show p.block < w.heap.size
      unfold World.cell? at m3
      cases hb : w.heap[p.block]? with
      | none => simp [hb] at m3
      | some o => exact (Array.getElem?_eq_some_iff.1 hb).1
    · have hnil : (Vs.take hi).drop lo = [] := by apply List.eq_nil_of_length_eq_zero; simp; omega
      rw [hnil]
      exact ⟨.inr rfl, fun i V hi => by simp at hi⟩
section rules
variable {P : Program} {all : Array Oper} {draw : Bool} {K : AX → Slots → St → Prop} {rest : List Oper} {acc : List Tag} {s : Slots} {σ : St}
variable {d : Option Tmp} {ty : TypeId} {pos : String} {af : Array Edge}
theorem A.callB {f : FuncId} {args : Array Operand} {tys : Array TypeId} {vals vals' : List AV} {r : AV} (ha : evsK s args.toList some = some vals) (hp : PFn P f vals' r) (hl : LookL σ vals vals') (hr : r.flat = true)
    (k : AOps P all draw K rest (.all :: acc) (putS d r s) σ) : AOps P all draw K (⟨d, .call ⟨.value (.func f), args, tys⟩, ty, pos, af, none⟩ :: rest) acc s σ :=
  A.step (t := .all) (σ' := σ) rfl (by
    intro g w a next Q hI ho hn
    have hv : args.toList.map (ev s) = vals := Option.some.inj (evsK_spec _ _ _ ha)
    have hla := repL_map (g := g) (w := w) (s := s) (a := a) args.toList (fun x hx => ho x (by simpa [Op.operands, Call.operands] using .inr (by simpa using hx)))
    rw [hv] at hla
    have hl2 : RepL ⟨[], [], fun b _ => b < w.heap.size⟩ w vals' (args.map a.eval).toList := by
      rw [Array.toList_map]
      exact hl g w _ hI hla
    unfold Oper.wp
    rw [run_call_func hp.1 a w]
    show Calls P f (args.map a.eval) w _
    refine (hp.2.2 (fun b _ => b < w.heap.size) w _ (fun b o h => h) (hI.gl.mono fun b o h => ⟨hI.imlt b o h, rfl⟩) hl2).mono ?_
    rintro e w' ⟨im', h1, h2, u, rfl, h3⟩
    have hx : Ext ⟨[], [], g.im⟩ w ⟨[], [], g.im⟩ w' := by
      refine ⟨⟨fun b o h => ⟨h, (h1.frc b o (hI.imlt b o h) (by simp) (fun k r h => by simp at h)).1⟩, fun _ _ h => by simp at h, fun _ _ h => by simp at h⟩, h1.size, h1.os, h1.tape, h1.output, h1.fr, h1.frc, fun b o h => .inl h, fun b h => by simp at h, fun k r h => by simp at h⟩
    obtain ⟨h4, h5⟩ := bare_ext hI hx (fun b o h => Nat.lt_of_lt_of_le (hI.imlt b o h) h1.size)
    exact hn u w' _ h4 h5 (Rep.flat _ _ hr h3)) k
theorem A.callR {f : FuncId} {args : Array Operand} {tys : Array TypeId} {vals vals0 : List AV} {B0 B1 B' : List Ob} {T0 T1 T' : List Tok} {v0 v : AV} {nB nT : Nat} (bs ts : List Nat) (ha : evsK s args.toList some = some vals)
    (hp : AFn P f vals0 ⟨B0, T0⟩ (fun e σ1 => e = .ret v0 ∧ σ1 = ⟨B1, T1⟩)) (hnB : σ.B.length = nB) (hnT : σ.T.length = nT) (hsb : Sel nB bs) (hst : Sel nT ts) (hB0 : B0.length = bs.length) (hT0 : T0.length = ts.length)
    (hob : ∀ (k i : Nat) (ob : Ob), bs[k]? = some i → B0[k]? = some ob → σ.B[i]? = some (ob.ren (emb nB bs) (emb nT ts))) (htk : ∀ (k i : Nat) (t : Tok), ts[k]? = some i → T0[k]? = some t → σ.T[i]? = some (t.ren (emb nB bs) (emb nT ts)))
    (hlB : belowB bs.length ts.length B0 = true) (hlT : belowT bs.length ts.length T0 = true) (hla : AV.lowL bs.length ts.length vals0 = true) (hw : WeakL vals (AV.renL (emb nB bs) (emb nT ts) vals0))
    (hv : v0.ren (emb nB bs) (emb nT ts) = v) (hB' : merge σ.B bs (B1.map (Ob.ren (emb nB bs) (emb nT ts))) = B') (hT' : merge σ.T ts (T1.map (Tok.ren (emb nB bs) (emb nT ts))) = T')
    (k : AOps P all draw K rest (.all :: acc) (putS d v s) ⟨B', T'⟩) : AOps P all draw K (⟨d, .call ⟨.value (.func f), args, tys⟩, ty, pos, af, none⟩ :: rest) acc s σ :=
  A.step (t := .all) (σ' := ⟨B', T'⟩) rfl (by
    intro g w a next Q hI ho hn
    subst hnB; subst hnT
    have hvv : args.toList.map (ev s) = vals := Option.some.inj (evsK_spec _ _ _ ha)
    have hl := repL_map (g := g) (w := w) (s := s) (a := a) args.toList (fun x hx => ho x (by simpa [Op.operands, Call.operands] using .inr (by simpa using hx)))
    rw [hvv] at hl
    obtain ⟨p1, p2, p3, p4⟩ := pick_inv hI hsb hst hB0 hT0 hob htk hlB hlT
    have hl2 : RepL (g.pick bs ts) w vals0 (args.map a.eval).toList := by
      rw [Array.toList_map]
      exact RepL.unren p2 vals0 _ (by rw [p3, p4]; exact hla) (hw _ _ _ hl)
    unfold Oper.wp
    rw [run_call_func hp.1 a w]
    show Calls P f (args.map a.eval) w _
    refine (hp.2 _ w _ p1 hl2).mono ?_
    rintro e w' ⟨g1, σ1, x, h1, h2, h3, rfl, rfl⟩
    obtain ⟨u, rfl, hu⟩ := h3
    obtain ⟨g', e1, e2, e3⟩ := join_inv hI hsb hst p3 p4 p2 h1 h2
    rw [hB', hT'] at e2
    exact hn u w' g' e1 e2 (by rw [← hv]; exact Rep.ren e3 _ _ hu)) k
theorem A.makeIface [Lay P] {d : Tmp} {T : TypeId} {x : Operand} {v : AV} {ti : TI} (hT : ty? P T = some ti) (hk : ti.kind ≠ .iface) (hx : ev? s x = some v) (k : AOps P all draw K rest (.pure :: acc) ((d, .iface T v) :: s) σ) :
    AOps P all draw K (⟨some d, .makeInterface T x, ty, pos, af, none⟩ :: rest) acc s σ :=
  A.step rfl (tpure fun g w a ho => by
    have h1 := op1 hx (by simp [Op.operands]) ho
    obtain ⟨info, dd, z0, t1, t2, t3, t4, _⟩ := (ty_ok hT).ex
    refine ⟨.iface T (a.eval x), ?_, _, rfl, h1⟩
    have : ∀ ms, dd ≠ .interface ms := fun ms e => by subst e; exact hk t3.symm
    cases dd <;> first | (exact absurd rfl (this _)) | simp [execOp, Instr.makeInterface, run_underlying t2, Result.andThen]) k
end rules
end Go.Av
set_option linter.unusedVariables false
namespace Go.Av
open Go
set_option linter.unusedSectionVars false
variable [Globals]
section
variable {P : Program} [Lay P]
end
end Go.Av
set_option linter.unusedVariables false
namespace Go.Av
open Go
set_option linter.unusedSectionVars false
variable [Globals]
mutual
theorem AV.ren_same {fb ft : Nat → Nat} {n m : Nat} (hb : ∀ i, i < n → fb i = i) (ht : ∀ k, k < m → ft k = k) : ∀ x : AV, x.low n m = true → x.ren fb ft = x
  | .undef, _ => by rw [AV.ren]
  | .bool _, _ => by rw [AV.ren]
  | .int _ _, _ => by rw [AV.ren]
  | .str _, _ => by rw [AV.ren]
  | .agg cs, h => by rw [AV.ren, AV.renL_same hb ht cs (by simpa [AV.low] using h)]
  | .tup cs, h => by rw [AV.ren, AV.renL_same hb ht cs (by simpa [AV.low] using h)]
  | .slice xs t, h => by
    simp only [AV.low, Bool.and_eq_true] at h
    rw [AV.ren, AV.renL_same hb ht xs h.2]
    cases t with
    | own k z => rw [Tk.ren, ht k (Nat.le_of_ble_eq_true h.1)]
    | no => rfl
    | full => rfl
    | nil => rfl
    | nn => rfl
  | .ptr i _, h => by rw [AV.ren, hb i (by simpa [AV.low] using h)]
  | .rptr x, h => by rw [AV.ren, AV.ren_same hb ht x (by simpa [AV.low] using h)]
  | .nilp, _ => by rw [AV.ren]
  | .praw _, _ => by rw [AV.ren]
  | .fn _ a b, h => by
    simp only [AV.low, Bool.and_eq_true] at h
    rw [AV.ren, AV.renL_same hb ht a h.1, AV.renL_same hb ht b h.2]
  | .nilfn, _ => by rw [AV.ren]
  | .iface _ x, h => by rw [AV.ren, AV.ren_same hb ht x (by simpa [AV.low] using h)]
  | .nili, _ => by rw [AV.ren]
  | .map i, h => by rw [AV.ren, hb i (by simpa [AV.low] using h)]
  | .nilmap, _ => by rw [AV.ren]
  | .iter i, h => by rw [AV.ren, hb i (by simpa [AV.low] using h)]
  | .view xs _, h => by rw [AV.ren, AV.renL_same hb ht xs (by simpa [AV.low] using h)]
  | .vec k _ _ _ _, h => by rw [AV.ren, ht k (by simpa [AV.low] using h)]
  | .vptr k _ _ _ _, h => by rw [AV.ren, ht k (by simpa [AV.low] using h)]
theorem AV.renL_same {fb ft : Nat → Nat} {n m : Nat} (hb : ∀ i, i < n → fb i = i) (ht : ∀ k, k < m → ft k = k) : ∀ xs : List AV, AV.lowL n m xs = true → AV.renL fb ft xs = xs
  | [], _ => by rw [AV.renL]
  | x :: xs, h => by
    simp only [AV.lowL, Bool.and_eq_true] at h
    rw [AV.renL, AV.ren_same hb ht x h.1, AV.renL_same hb ht xs h.2]
end
theorem Tok.ren_same {fb ft : Nat → Nat} {n m : Nat} (hb : ∀ i, i < n → fb i = i) (ht : ∀ k, k < m → ft k = k) {t : Tok} (h : t.low n m = true) : t.ren fb ft = t := by
  cases t with
  | len n => rfl
  | vec xs => rw [Tok.ren, AV.renL_same hb ht xs h]
theorem renT_same {fb ft : Nat → Nat} {n m : Nat} (hb : ∀ i, i < n → fb i = i) (ht : ∀ k, k < m → ft k = k) : ∀ T : List Tok, belowT n m T = true → T.map (Tok.ren fb ft) = T
  | [], _ => rfl
  | t :: T, h => by
    simp only [belowT, Bool.and_eq_true] at h
    rw [List.map_cons, Tok.ren_same hb ht h.1, renT_same hb ht T h.2]
section rules
variable {P : Program} {all : Array Oper} {draw : Bool} {K : AX → Slots → St → Prop} {rest : List Oper} {acc : List Tag} {s : Slots} {σ : St}
variable {d : Option Tmp} {ty : TypeId} {pos : String} {af : Array Edge}
theorem merge_nil {α : Type} (l c : List α) : merge l [] c = l ++ c := by
  unfold merge; rw [List.length_nil, List.drop_zero]; cases c <;> rfl
theorem A.callN {f : FuncId} {args : Array Operand} {tys : Array TypeId} {vals vals0 : List AV} {T1 : List Tok} {v : AV} {B : List Ob} (hσ : σ = ⟨B, []⟩) (ha : evsK s args.toList some = some vals)
    (hp : AFn P f vals0 ⟨[], []⟩ (fun e σ1 => e = .ret v ∧ σ1 = ⟨[], T1⟩)) (hc : AV.closedL vals0 = true) (hw : WeakL vals vals0) (hv : v.low 0 T1.length = true) (hT : belowT 0 T1.length T1 = true)
    (k : AOps P all draw K rest (.all :: acc) (putS d v s) ⟨B, T1⟩) : AOps P all draw K (⟨d, .call ⟨.value (.func f), args, tys⟩, ty, pos, af, none⟩ :: rest) acc s σ := by
  subst hσ
  have hft : ∀ k, k < T1.length → emb 0 [] k = k := fun k _ => by simp [emb]
  have hfb : ∀ i, i < 0 → emb B.length [] i = i := fun i h => by omega
  refine A.callR (nB := B.length) (nT := 0) (B0 := []) (T0 := []) (B1 := []) (T1 := T1) (v0 := v) [] [] ha hp rfl rfl ⟨List.nodup_nil, by simp⟩ ⟨List.nodup_nil, by simp⟩ rfl rfl (fun k i ob h => by simp at h) (fun k i t h => by simp at h) rfl rfl
    (AV.lowL_of_closed _ _ _ hc) (by rw [AV.renL_closed _ _ _ hc]; exact hw) (AV.ren_same hfb hft v hv) (B' := B) (T' := T1) ?_ ?_ k
  · rw [merge_nil]; simp
  · rw [merge_nil, renT_same hfb hft T1 hT]; rfl
end rules
theorem AFn.mono {P : Program} {f : FuncId} {args : List AV} {σ : St} {post post' : AEnd → St → Prop} (h : AFn P f args σ post) (hp : ∀ e σ', post e σ' → post' e σ') : AFn P f args σ post' :=
  ⟨h.1, fun g w vals hi hl => (h.2 g w vals hi hl).mono fun e w' ⟨g', σ', x, h1, h2, h3, h4⟩ => ⟨g', σ', x, h1, h2, h3, hp _ _ h4⟩⟩
end Go.Av
set_option linter.unusedVariables false
namespace Go.Av
open Go
set_option linter.unusedSectionVars false
variable [Globals]
theorem AFn.dropped {P : Program} {f : FuncId} {args : List AV} {σ : St} {post : AEnd → St → Prop} (h : AFn P f args σ (fun e σ1 => ∃ v nB mT, e = .ret v ∧ σ.B.length ≤ nB ∧ σ.T.length ≤ mT ∧ v.low nB mT = true ∧ belowB nB mT (σ1.B.take nB) = true ∧ belowT nB mT (σ1.T.take mT) = true ∧ post (.ret v) ⟨σ1.B.take nB, σ1.T.take mT⟩)) : AFn P f args σ post :=
  ⟨h.1, fun g w vals hi hl => (h.2 g w vals hi hl).mono fun e w' ⟨g', σ', x, h1, h2, h3, v, nB, mT, e1, l1, l2, h4, h5, h6, h7⟩ => by
    subst e1
    obtain ⟨u, rfl, hu⟩ := h3
    exact ⟨g'.cutTo nB mT, _, .ret v, cutTo_ext h1 (by rw [hi.lenB]; exact l1) (by rw [hi.lenT]; exact l2), cutTo_inv h2 h5 h6, ⟨u, rfl, Rep.low v u h4 hu⟩, h7⟩⟩
end Go.Av
