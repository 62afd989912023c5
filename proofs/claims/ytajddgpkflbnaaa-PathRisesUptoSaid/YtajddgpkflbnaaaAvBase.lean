/-
  Abstract values, their representation in memory, and what stays true when memory grows. A library of the prover's own; no statement stands here.
-/
import Derived.Calls
import Derived.Orders
import Derived.WalkKit
namespace Go.Av
open Go

/-- What is known of the room behind a slice: nothing; there is none; the slice is nil; token k holds the right to it. -/
inductive Tk where
  | no | full | nil | nn
  | own (k sz : Nat)

/-- Abstract values. A struct is the flat list of its cells. -/
inductive AV where
  | undef
  | bool (b : Bool)
  | int (k : IntKind) (n : Int)
  | str (s : List UInt8)
  | agg (cs : List AV)
  | tup (cs : List AV)
  | slice (xs : List AV) (t : Tk)
  | ptr (i off : Nat)
  | rptr (x : AV)
  | nilp
  | fn (f : Fn) (first cap : List AV)
  | nilfn
  | iface (t : TypeId) (v : AV)
  | nili
  | map (i : Nat)
  | nilmap
  | iter (i : Nat)
  | view (xs : List AV) (n : Nat)
  | vec (k z n lo hi : Nat)
  | vptr (k z n j off : Nat)

/-- A token's record: the slice that holds it. sz: cells an element; lo: elements that are never written any more. -/
structure Rec where
  base : Option Addr
  n : Nat
  cap : Nat
  sz : Nat
  lo : Nat

/-- The cells that are the walk's own, up to the capacity. -/
def Rec.zone (r : Rec) (b o : Nat) : Prop := ∃ p : Addr, r.base = some p ∧ p.block = b ∧ p.off + r.lo * r.sz ≤ o ∧ o < p.off + r.cap * r.sz

/-- Where the abstract objects lie; the tokens; which cells are never written any more. -/
structure Gh where
  bx : List Nat
  tk : List Rec
  im : Nat → Nat → Prop

def TkOk (g : Gh) (sz : Nat) (a : Option Addr) (len cap : Nat) : Tk → Prop
  | .no => True
  | .full => len = cap
  | .nil => a = none ∧ cap = 0
  | .nn => a ≠ none
  | .own k z => (sz = z ∨ len = 0) ∧ ∃ r, g.tk[k]? = some r ∧ r.sz = z ∧ len ≤ r.n ∧ (len = r.n → r.base = a ∧ r.cap = cap ∧ (cap = 0 ∨ ∀ p : Addr, a = some p → p.spot = none))

/-- V lies in block b from o on, in cells that are never written any more. -/
def InMem (g : Gh) (w : World) (b o : Nat) (V : Value) : Prop :=
  ∀ (j : Nat) (u : Value), V.cells[j]? = some u → g.im b (o + j) ∧ w.cell? ⟨b, o + j, none⟩ = some u ∧ u.oneCell' = true

/-- Elements of sz cells each. -/
def InMemE (g : Gh) (w : World) (b sz o : Nat) (Vs : List Value) : Prop :=
  ∀ (i : Nat) (V : Value), Vs[i]? = some V → V.cells.size = sz ∧ InMem g w b (o + i * sz) V

mutual
/-- v, in the world w, reads as the abstract value. -/
def Rep (g : Gh) (w : World) : AV → Value → Prop
  | .undef, _ => True
  | .bool b, v => v = .bool b
  | .int k n, v => v = .int k n
  | .str s, v => v = .string ⟨s.toArray⟩
  | .agg cs, v => ∃ vs : Array Value, v = .agg vs ∧ RepL g w cs vs.toList ∧ ∀ u ∈ vs.toList, u.oneCell' = true
  | .tup cs, v => ∃ vs : Array Value, v = .tuple vs ∧ RepL g w cs vs.toList
  | .slice xs t, v => ∃ (a : Option Addr) (cap sz : Nat) (Vs : List Value), v = .slice a Vs.length cap ∧ Vs.length ≤ cap ∧ cap ≤ maxLen ∧
      TkOk g sz a Vs.length cap t ∧ RepL g w xs Vs ∧ (a = none → Vs = [] ∧ cap = 0) ∧
      ∀ p : Addr, a = some p → (p.spot = none ∨ Vs = []) ∧ InMemE g w p.block sz p.off Vs
  | .ptr i off, v => ∃ b, g.bx[i]? = some b ∧ v = .pointer (some ⟨b, off, none⟩)
  | .rptr x, v => ∃ b o V, v = .pointer (some ⟨b, o, none⟩) ∧ InMem g w b o V ∧ Rep g w x V
  | .nilp, v => v = .pointer none
  | .fn f fs cs, v => ∃ vs ws : Array Value, v = .func f vs ws ∧ RepL g w fs vs.toList ∧ RepL g w cs ws.toList
  | .nilfn, v => v = .nilFunc
  | .iface t x, v => ∃ u, v = .iface t u ∧ Rep g w x u
  | .nili, v => v = .nilIface
  | .map i, v => ∃ b, g.bx[i]? = some b ∧ v = .map (some b)
  | .nilmap, v => v = .map none
  | .iter i, v => ∃ b, g.bx[i]? = some b ∧ v = .pointer (some ⟨b, 0, none⟩)
  | .view xs n, v => ∃ (a : Option Addr) (cap sz : Nat) (Vs : List Value), v = .slice a n cap ∧ n ≤ Vs.length ∧ Vs.length ≤ cap ∧ cap ≤ maxLen ∧ RepL g w xs Vs ∧ (a = none → Vs = [] ∧ cap = 0) ∧
      ∀ p : Addr, a = some p → (p.spot = none ∨ Vs = []) ∧ InMemE g w p.block sz p.off Vs
  | .vec k z n lo hi, v => ∃ (a : Option Addr) (cap : Nat), v = .slice a (hi - lo) (cap - lo) ∧ lo ≤ hi ∧ hi ≤ n ∧ n ≤ cap ∧ cap ≤ maxLen ∧ (lo < cap → ∃ b o, a = some ⟨b, o, none⟩) ∧ ∃ r, g.tk[k]? = some r ∧ r.sz = z ∧ n ≤ r.n ∧
      (n = r.n → r.lo = 0 ∧ r.cap = cap ∧ (lo < cap → ∃ p, r.base = some p ∧ p.spot = none ∧ a = some ⟨p.block, p.off + lo * z, none⟩))
  | .vptr k z n j off, v => ∃ b o, v = .pointer (some ⟨b, o, none⟩) ∧ j < n ∧ ∃ r, g.tk[k]? = some r ∧ r.sz = z ∧ n ≤ r.n ∧
      (n = r.n → r.lo = 0 ∧ ∃ p, r.base = some p ∧ p.spot = none ∧ b = p.block ∧ o = p.off + j * z + off)
/-- A list of values, one by one. -/
def RepL (g : Gh) (w : World) : List AV → List Value → Prop
  | [], vs => vs = []
  | c :: cs, vs => ∃ v rest, vs = v :: rest ∧ Rep g w c v ∧ RepL g w cs rest
end

/-- What suffices that values go on reading as they do. -/
structure Le (g : Gh) (w : World) (g' : Gh) (w' : World) : Prop where
  im : ∀ b o, g.im b o → g'.im b o ∧ w'.cell? ⟨b, o, none⟩ = w.cell? ⟨b, o, none⟩
  bx : ∀ (i b : Nat), g.bx[i]? = some b → g'.bx[i]? = some b
  tk : ∀ (k : Nat) (r : Rec), g.tk[k]? = some r → ∃ r', g'.tk[k]? = some r' ∧ (r' = r ∨ (r.n < r'.n ∧ r'.sz = r.sz))

theorem Le.refl (g : Gh) (w : World) : Le g w g w := ⟨fun _ _ h => ⟨h, rfl⟩, fun _ _ h => h, fun _ r h => ⟨r, h, .inl rfl⟩⟩
theorem Le.trans {g g' g'' : Gh} {w w' w'' : World} (h : Le g w g' w') (k : Le g' w' g'' w'') : Le g w g'' w'' where
  im b o hi := ⟨(k.im b o (h.im b o hi).1).1, (k.im b o (h.im b o hi).1).2.trans (h.im b o hi).2⟩
  bx i b hi := k.bx i b (h.bx i b hi)
  tk i r hi := by
    obtain ⟨r', h1, h2⟩ := h.tk i r hi
    obtain ⟨r'', h3, h4⟩ := k.tk i r' h1
    refine ⟨r'', h3, ?_⟩
    rcases h2 with rfl | h2
    · exact h4
    · rcases h4 with rfl | h4
      · exact .inr h2
      · exact .inr ⟨Nat.lt_trans h2.1 h4.1, h4.2.trans h2.2⟩

section
variable {g g' : Gh} {w w' : World}

theorem InMem.mono (h : Le g w g' w') {b o : Nat} {V : Value} (hm : InMem g w b o V) : InMem g' w' b o V := fun j u hj =>
  let ⟨h1, h2, h3⟩ := hm j u hj
  ⟨(h.im _ _ h1).1, (h.im _ _ h1).2.trans h2, h3⟩
theorem InMemE.mono (h : Le g w g' w') {b sz o : Nat} {Vs : List Value} (hm : InMemE g w b sz o Vs) : InMemE g' w' b sz o Vs := fun i V hi =>
  ⟨(hm i V hi).1, (hm i V hi).2.mono h⟩
theorem TkOk.mono (h : Le g w g' w') {sz : Nat} {a : Option Addr} {len cap : Nat} {t : Tk} (ht : TkOk g sz a len cap t) : TkOk g' sz a len cap t := by
  cases t with
  | no => exact ht
  | full => exact ht
  | nil => exact ht
  | nn => exact ht
  | own k z =>
    obtain ⟨h0, r, h1, hz, h2, h3⟩ := ht
    obtain ⟨r', h4, h5⟩ := h.tk k r h1
    refine ⟨h0, r', h4, ?_, ?_, ?_⟩
    · rcases h5 with rfl | h5
      · exact hz
      · exact h5.2.trans hz
    · rcases h5 with rfl | h5 <;> omega
    · intro e
      rcases h5 with rfl | h5
      · exact h3 e
      · omega

mutual
theorem Rep.mono (h : Le g w g' w') : ∀ (x : AV) (v : Value), Rep g w x v → Rep g' w' x v
  | .undef, _, _ => trivial
  | .bool _, _, hv => hv
  | .int _ _, _, hv => hv
  | .str _, _, hv => hv
  | .agg cs, _, ⟨vs, e, hl, h1⟩ => ⟨vs, e, RepL.mono h cs _ hl, h1⟩
  | .tup cs, _, ⟨vs, e, hl⟩ => ⟨vs, e, RepL.mono h cs _ hl⟩
  | .slice xs _, _, ⟨a, cap, sz, Vs, e, h1, h2, h3, h4, h5, h6⟩ =>
    ⟨a, cap, sz, Vs, e, h1, h2, h3.mono h, RepL.mono h xs _ h4, h5, fun p hp => ⟨(h6 p hp).1, (h6 p hp).2.mono h⟩⟩
  | .ptr _ _, _, ⟨b, h1, e⟩ => ⟨b, h.bx _ _ h1, e⟩
  | .rptr x, _, ⟨b, o, V, e, h1, h2⟩ => ⟨b, o, V, e, h1.mono h, Rep.mono h x _ h2⟩
  | .nilp, _, hv => hv
  | .fn _ fs cs, _, ⟨vs, ws, e, h1, h2⟩ => ⟨vs, ws, e, RepL.mono h fs _ h1, RepL.mono h cs _ h2⟩
  | .nilfn, _, hv => hv
  | .iface _ x, _, ⟨u, e, h1⟩ => ⟨u, e, Rep.mono h x _ h1⟩
  | .nili, _, hv => hv
  | .map _, _, ⟨b, h1, e⟩ => ⟨b, h.bx _ _ h1, e⟩
  | .nilmap, _, hv => hv
  | .iter _, _, ⟨b, h1, e⟩ => ⟨b, h.bx _ _ h1, e⟩
  | .view xs _, _, ⟨a, cap, sz, Vs, e, h0, h1, h2, h4, h5, h6⟩ =>
    ⟨a, cap, sz, Vs, e, h0, h1, h2, RepL.mono h xs _ h4, h5, fun p hp => ⟨(h6 p hp).1, (h6 p hp).2.mono h⟩⟩
  | .vec _ _ _ _ _, _, ⟨a, cap, e, h1, h2, h3, h4, h5, r, hr, hz, hn, h6⟩ => by
    obtain ⟨r', hr', hh⟩ := h.tk _ r hr
    refine ⟨a, cap, e, h1, h2, h3, h4, h5, r', hr', ?_, ?_, ?_⟩
    · rcases hh with rfl | hh
      · exact hz
      · exact hh.2.trans hz
    · rcases hh with rfl | hh <;> omega
    · intro e
      rcases hh with rfl | hh
      · exact h6 e
      · omega
  | .vptr _ _ _ _ _, _, ⟨b, o, e, hj, r, hr, hz, hn, h6⟩ => by
    obtain ⟨r', hr', hh⟩ := h.tk _ r hr
    refine ⟨b, o, e, hj, r', hr', ?_, ?_, ?_⟩
    · rcases hh with rfl | hh
      · exact hz
      · exact hh.2.trans hz
    · rcases hh with rfl | hh <;> omega
    · intro e
      rcases hh with rfl | hh
      · exact h6 e
      · omega
theorem RepL.mono (h : Le g w g' w') : ∀ (cs : List AV) (vs : List Value), RepL g w cs vs → RepL g' w' cs vs
  | [], _, hv => hv
  | c :: cs, _, ⟨v, rest, e, h1, h2⟩ => ⟨v, rest, e, Rep.mono h c _ h1, RepL.mono h cs _ h2⟩
end

theorem RepL.length : ∀ {cs : List AV} {vs : List Value}, RepL g w cs vs → vs.length = cs.length
  | [], _, h => by simp [show _ = [] from h]
  | _ :: cs, _, ⟨_, _, e, _, h2⟩ => by subst e; simp [RepL.length h2]
theorem RepL.get : ∀ {cs : List AV} {vs : List Value} {i : Nat} {c : AV}, RepL g w cs vs → cs[i]? = some c → ∃ v, vs[i]? = some v ∧ Rep g w c v
  | c :: _, _, 0, _, ⟨v, rest, e, h1, _⟩, hi => by subst e; simp at hi; subst hi; exact ⟨v, rfl, h1⟩
  | _ :: cs, _, i + 1, _, ⟨v, rest, e, _, h2⟩, hi => by subst e; simpa using RepL.get h2 (by simpa using hi)
theorem RepL.nil : RepL g w [] [] := rfl
theorem RepL.cons {c : AV} {cs : List AV} {v : Value} {vs : List Value} (h : Rep g w c v) (hs : RepL g w cs vs) : RepL g w (c :: cs) (v :: vs) := ⟨v, vs, rfl, h, hs⟩
theorem RepL.append : ∀ {cs ds : List AV} {vs us : List Value}, RepL g w cs vs → RepL g w ds us → RepL g w (cs ++ ds) (vs ++ us)
  | [], _, _, _, h, k => by rw [show _ = [] from h]; exact k
  | _ :: _, _, _, _, ⟨v, rest, e, h1, h2⟩, k => by subst e; exact ⟨v, rest ++ _, rfl, h1, h2.append k⟩
theorem RepL.take : ∀ {cs : List AV} {vs : List Value} (n : Nat), RepL g w cs vs → RepL g w (cs.take n) (vs.take n)
  | [], _, n, h => by rw [show _ = [] from h]; simp [RepL.nil]
  | _ :: _, _, 0, _ => by simp [RepL.nil]
  | _ :: _, _, n + 1, ⟨v, rest, e, h1, h2⟩ => by subst e; exact ⟨v, rest.take n, rfl, h1, h2.take n⟩
theorem RepL.drop : ∀ {cs : List AV} {vs : List Value} (n : Nat), RepL g w cs vs → RepL g w (cs.drop n) (vs.drop n)
  | [], _, n, h => by rw [show _ = [] from h]; simp [RepL.nil]
  | _ :: _, _, 0, h => h
  | _ :: _, _, n + 1, ⟨v, rest, e, h1, h2⟩ => by subst e; exact h2.drop n
theorem RepL.set : ∀ {cs : List AV} {vs : List Value} {c : AV} {v : Value} (i : Nat), RepL g w cs vs → Rep g w c v → RepL g w (cs.set i c) (vs.set i v)
  | [], _, _, _, i, h, _ => by rw [show _ = [] from h]; simp [RepL.nil]
  | _ :: _, _, _, _, 0, ⟨v, rest, e, h1, h2⟩, k => by subst e; exact ⟨_, rest, rfl, k, h2⟩
  | _ :: _, _, _, _, i + 1, ⟨v, rest, e, h1, h2⟩, k => by subst e; exact ⟨v, _, rfl, h1, h2.set i k⟩
/-- The other way: what is in the values is in the abstract list. -/
theorem RepL.get' : ∀ {cs : List AV} {vs : List Value} {i : Nat} {v : Value}, RepL g w cs vs → vs[i]? = some v → ∃ c, cs[i]? = some c ∧ Rep g w c v
  | [], _, i, _, h, hi => by rw [show _ = [] from h] at hi; simp at hi
  | c :: _, _, 0, _, ⟨v, rest, e, h1, _⟩, hi => by subst e; simp at hi; subst hi; exact ⟨c, rfl, h1⟩
  | _ :: cs, _, i + 1, _, ⟨v, rest, e, _, h2⟩, hi => by subst e; simpa using RepL.get' h2 (by simpa using hi)
end

/-- Package-level variables that are never written: what they read as. -/
class Globals where
  table : List (Nat × AV)

def GlobOk [Globals] (im : Nat → Nat → Prop) (w : World) : Prop := ∀ p ∈ Globals.table, Rep ⟨[], [], im⟩ w (.rptr p.2) (.pointer (some ⟨p.1, 0, none⟩))

theorem GlobOk.mono [Globals] {im im' : Nat → Nat → Prop} {w w' : World} (h : ∀ b o, im b o → im' b o ∧ w'.cell? ⟨b, o, none⟩ = w.cell? ⟨b, o, none⟩) (hg : GlobOk im w) : GlobOk im' w' := fun p hp =>
  Rep.mono ⟨h, fun _ _ h => by simp at h, fun _ _ h => by simp at h⟩ _ _ (hg p hp)
theorem GlobOk.le [Globals] {g g' : Gh} {w w' : World} (h : Le g w g' w') (hg : GlobOk g.im w) : GlobOk g'.im w' := hg.mono h.im
theorem GlobOk.rep [Globals] {g : Gh} {w : World} (hg : GlobOk g.im w) {p : Nat × AV} (hp : p ∈ Globals.table) : Rep g w (.rptr p.2) (.pointer (some ⟨p.1, 0, none⟩)) :=
  Rep.mono (g := ⟨[], [], g.im⟩) (w := w) (g' := g) (w' := w) ⟨fun _ _ h => ⟨h, rfl⟩, fun _ _ h => by simp at h, fun _ _ h => by simp at h⟩ _ _ (hg p hp)

def gget : List (Nat × AV) → Nat → Option AV
  | [], _ => none
  | (t, i) :: l, u => bif Nat.beq t u then some (.rptr i) else gget l u
theorem gget_mem : ∀ {l : List (Nat × AV)} {u : Nat} {x : AV}, gget l u = some x → ∃ y, x = .rptr y ∧ (u, y) ∈ l
  | (t, i) :: l, u, x, h => by
    unfold gget at h
    cases e : Nat.beq t u with
    | true =>
      rw [e] at h
      have := Nat.eq_of_beq_eq_true e
      subst this
      simp only [cond_true, Option.some.injEq] at h
      exact ⟨i, h.symm, by simp⟩
    | false =>
      rw [e] at h
      obtain ⟨y, h1, h2⟩ := gget_mem (l := l) (by simpa using h)
      exact ⟨y, h1, List.mem_cons_of_mem _ h2⟩
end Go.Av
