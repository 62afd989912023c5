/-
  Abstract values, their representation in memory, and what stays true when memory grows. A library of the prover's own; no statement stands here.
-/
import Derived.Calls
import Derived.Orders
import Derived.WalkKit
namespace Go.Av
open Go
inductive Tk where
  | no | full | nil | nn
  | own (k sz : Nat)
inductive AV where
  | undef
  | bool (b : Bool)
  | int (k : IntKind) (n : Int)
  | str (s : List UInt8)
  | agg (cs : List AV)
  | tup (cs : List AV)
  | slice (xs : List AV) (t : Tk)
  | ptr (i off : Nat)
  | rptr (x : AV)
  | nilp
  | praw (a : Addr)
  | fn (f : Fn) (first cap : List AV)
  | nilfn
  | iface (t : TypeId) (v : AV)
  | nili
  | map (i : Nat)
  | nilmap
  | iter (i : Nat)
  | view (xs : List AV) (n : Nat)
  | vec (k z n lo hi : Nat)
  | vptr (k z n j off : Nat)
structure Rec where
  base : Option Addr
  n : Nat
  cap : Nat
  sz : Nat
  lo : Nat
def Rec.zone (r : Rec) (b o : Nat) : Prop := ∃ p : Addr, r.base = some p ∧ p.block = b ∧ p.off + r.lo * r.sz ≤ o ∧ o < p.off + r.cap * r.sz
structure Gh where
  bx : List Nat
  tk : List Rec
  im : Nat → Nat → Prop
def TkOk (g : Gh) (sz : Nat) (a : Option Addr) (len cap : Nat) : Tk → Prop
  | .no => True
  | .full => len = cap
  | .nil => a = none ∧ cap = 0
  | .nn => a ≠ none
  | .own k z => (sz = z ∨ len = 0) ∧ ∃ r, g.tk[k]? = some r ∧ r.sz = z ∧ len ≤ r.n ∧ (len = r.n → r.base = a ∧ r.cap = cap ∧ (cap = 0 ∨ ∀ p : Addr, a = some p → p.spot = none))
def InMem (g : Gh) (w : World) (b o : Nat) (V : Value) : Prop :=
  ∀ (j : Nat) (u : Value), V.cells[j]? = some u → g.im b (o + j) ∧ w.cell? ⟨b, o + j, none⟩ = some u ∧ u.oneCell' = true
def InMemE (g : Gh) (w : World) (b sz o : Nat) (Vs : List Value) : Prop :=
  ∀ (i : Nat) (V : Value), Vs[i]? = some V → V.cells.size = sz ∧ InMem g w b (o + i * sz) V
mutual
def Rep (g : Gh) (w : World) : AV → Value → Prop
  | .undef, _ => True
  | .bool b, v => v = .bool b
  | .int k n, v => v = .int k n
  | .str s, v => v = .string ⟨s.toArray⟩
  | .agg cs, v => ∃ vs : Array Value, v = .agg vs ∧ RepL g w cs vs.toList ∧ ∀ u ∈ vs.toList, u.oneCell' = true
  | .tup cs, v => ∃ vs : Array Value, v = .tuple vs ∧ RepL g w cs vs.toList
  | .slice xs t, v => ∃ (a : Option Addr) (cap sz : Nat) (Vs : List Value), v = .slice a Vs.length cap ∧ Vs.length ≤ cap ∧ cap ≤ maxLen ∧
      TkOk g sz a Vs.length cap t ∧ RepL g w xs Vs ∧ (a = none → Vs = [] ∧ cap = 0) ∧
      ∀ p : Addr, a = some p → (p.spot = none ∨ Vs = []) ∧ InMemE g w p.block sz p.off Vs
  | .ptr i off, v => ∃ b, g.bx[i]? = some b ∧ v = .pointer (some ⟨b, off, none⟩)
  | .rptr x, v => ∃ b o V, v = .pointer (some ⟨b, o, none⟩) ∧ InMem g w b o V ∧ Rep g w x V
  | .nilp, v => v = .pointer none
  | .praw a, v => v = .pointer (some a)
  | .fn f fs cs, v => ∃ vs ws : Array Value, v = .func f vs ws ∧ RepL g w fs vs.toList ∧ RepL g w cs ws.toList
  | .nilfn, v => v = .nilFunc
  | .iface t x, v => ∃ u, v = .iface t u ∧ Rep g w x u
  | .nili, v => v = .nilIface
  | .map i, v => ∃ b, g.bx[i]? = some b ∧ v = .map (some b)
  | .nilmap, v => v = .map none
  | .iter i, v => ∃ b, g.bx[i]? = some b ∧ v = .pointer (some ⟨b, 0, none⟩)
  | .view xs n, v => ∃ (a : Option Addr) (cap sz : Nat) (Vs : List Value), v = .slice a n cap ∧ n ≤ Vs.length ∧ Vs.length ≤ cap ∧ cap ≤ maxLen ∧ RepL g w xs Vs ∧ (a = none → Vs = [] ∧ cap = 0) ∧
      ∀ p : Addr, a = some p → (p.spot = none ∨ Vs = []) ∧ InMemE g w p.block sz p.off Vs
  | .vec k z n lo hi, v => ∃ (a : Option Addr) (cap : Nat), v = .slice a (hi - lo) (cap - lo) ∧ lo ≤ hi ∧ hi ≤ n ∧ n ≤ cap ∧ cap ≤ maxLen ∧ (lo < cap → ∃ b o, a = some ⟨b, o, none⟩) ∧ ∃ r, g.tk[k]? = some r ∧ r.sz = z ∧ n ≤ r.n ∧
      (n = r.n → r.lo = 0 ∧ r.cap = cap ∧ (lo < cap → ∃ p, r.base = some p ∧ p.spot = none ∧ a = some ⟨p.block, p.off + lo * z, none⟩))
  | .vptr k z n j off, v => ∃ b o, v = .pointer (some ⟨b, o, none⟩) ∧ j < n ∧ ∃ r, g.tk[k]? = some r ∧ r.sz = z ∧ n ≤ r.n ∧
      (n = r.n → r.lo = 0 ∧ ∃ p, r.base = some p ∧ p.spot = none ∧ b = p.block ∧ o = p.off + j * z + off)
def RepL (g : Gh) (w : World) : List AV → List Value → Prop
  | [], vs => vs = []
  | c :: cs, vs => ∃ v rest, vs = v :: rest ∧ Rep g w c v ∧ RepL g w cs rest
end
structure Le (g : Gh) (w : World) (g' : Gh) (w' : World) : Prop where
  im : ∀ b o, g.im b o → g'.im b o ∧ w'.cell? ⟨b, o, none⟩ = w.cell? ⟨b, o, none⟩
  bx : ∀ (i b : Nat), g.bx[i]? = some b → g'.bx[i]? = some b
  tk : ∀ (k : Nat) (r : Rec), g.tk[k]? = some r → ∃ r', g'.tk[k]? = some r' ∧ (r' = r ∨ (r.n < r'.n ∧ r'.sz = r.sz))
theorem Le.refl (g : Gh) (w : World) : Le g w g w := ⟨fun _ _ h => ⟨h, rfl⟩, fun _ _ h => h, fun _ r h => ⟨r, h, .inl rfl⟩⟩
theorem Le.trans {g g' g'' : Gh} {w w' w'' : World} (h : Le g w g' w') (k : Le g' w' g'' w'') : Le g w g'' w'' where
  im b o hi := ⟨(k.im b o (h.im b o hi).1).1, (k.im b o (h.im b o hi).1).2.trans (h.im b o hi).2⟩
  bx i b hi := k.bx i b (h.bx i b hi)
  tk i r hi := by
    obtain ⟨r', h1, h2⟩ := h.tk i r hi
    obtain ⟨r'', h3, h4⟩ := k.tk i r' h1
    refine ⟨r'', h3, ?_⟩
    rcases h2 with rfl | h2
    · exact h4
    · rcases h4 with rfl | h4
      · exact .inr h2
      · exact .inr ⟨Nat.lt_trans h2.1 h4.1, h4.2.trans h2.2⟩
section
variable {g g' : Gh} {w w' : World}
theorem InMem.mono (h : Le g w g' w') {b o : Nat} {V : Value} (hm : InMem g w b o V) : InMem g' w' b o V := fun j u hj =>
  let ⟨h1, h2, h3⟩ := hm j u hj
  ⟨(h.im _ _ h1).1, (h.im _ _ h1).2.trans h2, h3⟩
theorem InMemE.mono (h : Le g w g' w') {b sz o : Nat} {Vs : List Value} (hm : InMemE g w b sz o Vs) : InMemE g' w' b sz o Vs := fun i V hi =>
  ⟨(hm i V hi).1, (hm i V hi).2.mono h⟩
theorem TkOk.mono (h : Le g w g' w') {sz : Nat} {a : Option Addr} {len cap : Nat} {t : Tk} (ht : TkOk g sz a len cap t) : TkOk g' sz a len cap t := by
  cases t with
  | no => exact ht
  | full => exact ht
  | nil => exact ht
  | nn => exact ht
  | own k z =>
    obtain ⟨h0, r, h1, hz, h2, h3⟩ := ht
    obtain ⟨r', h4, h5⟩ := h.tk k r h1
    refine ⟨h0, r', h4, ?_, ?_, ?_⟩
    · rcases h5 with rfl | h5
      · exact hz
      · exact h5.2.trans hz
    · rcases h5 with rfl | h5 <;> omega
    · intro e
      rcases h5 with rfl | h5
      · exact h3 e
      · omega
mutual
theorem Rep.mono (h : Le g w g' w') : ∀ (x : AV) (v : Value), Rep g w x v → Rep g' w' x v
  | .undef, _, _ => trivial
  | .bool _, _, hv => hv
  | .int _ _, _, hv => hv
  | .str _, _, hv => hv
  | .agg cs, _, ⟨vs, e, hl, h1⟩ => ⟨vs, e, RepL.mono h cs _ hl, h1⟩
  | .tup cs, _, ⟨vs, e, hl⟩ => ⟨vs, e, RepL.mono h cs _ hl⟩
  | .slice xs _, _, ⟨a, cap, sz, Vs, e, h1, h2, h3, h4, h5, h6⟩ =>
    ⟨a, cap, sz, Vs, e, h1, h2, h3.mono h, RepL.mono h xs _ h4, h5, fun p hp => ⟨(h6 p hp).1, (h6 p hp).2.mono h⟩⟩
  | .ptr _ _, _, ⟨b, h1, e⟩ => ⟨b, h.bx _ _ h1, e⟩
  | .rptr x, _, ⟨b, o, V, e, h1, h2⟩ => ⟨b, o, V, e, h1.mono h, Rep.mono h x _ h2⟩
  | .nilp, _, hv => hv
  | .praw _, _, hv => hv
  | .fn _ fs cs, _, ⟨vs, ws, e, h1, h2⟩ => ⟨vs, ws, e, RepL.mono h fs _ h1, RepL.mono h cs _ h2⟩
  | .nilfn, _, hv => hv
  | .iface _ x, _, ⟨u, e, h1⟩ => ⟨u, e, Rep.mono h x _ h1⟩
  | .nili, _, hv => hv
  | .map _, _, ⟨b, h1, e⟩ => ⟨b, h.bx _ _ h1, e⟩
  | .nilmap, _, hv => hv
  | .iter _, _, ⟨b, h1, e⟩ => ⟨b, h.bx _ _ h1, e⟩
  | .view xs _, _, ⟨a, cap, sz, Vs, e, h0, h1, h2, h4, h5, h6⟩ =>
    ⟨a, cap, sz, Vs, e, h0, h1, h2, RepL.mono h xs _ h4, h5, fun p hp => ⟨(h6 p hp).1, (h6 p hp).2.mono h⟩⟩
  | .vec _ _ _ _ _, _, ⟨a, cap, e, h1, h2, h3, h4, h5, r, hr, hz, hn, h6⟩ => by
    obtain ⟨r', hr', hh⟩ := h.tk _ r hr
    refine ⟨a, cap, e, h1, h2, h3, h4, h5, r', hr', ?_, ?_, ?_⟩
    · rcases hh with rfl | hh
      · exact hz
      · exact hh.2.trans hz
    · rcases hh with rfl | hh <;> omega
    · intro e
      rcases hh with rfl | hh
      · exact h6 e
      · omega
  | .vptr _ _ _ _ _, _, ⟨b, o, e, hj, r, hr, hz, hn, h6⟩ => by
    obtain ⟨r', hr', hh⟩ := h.tk _ r hr
    refine ⟨b, o, e, hj, r', hr', ?_, ?_, ?_⟩
    · rcases hh with rfl | hh
      · exact hz
      · exact hh.2.trans hz
    · rcases hh with rfl | hh <;> omega
    · intro e
      rcases hh with rfl | hh
      · exact h6 e
      · omega
theorem RepL.mono (h : Le g w g' w') : ∀ (cs : List AV) (vs : List Value), RepL g w cs vs → RepL g' w' cs vs
  | [], _, hv => hv
  | c :: cs, _, ⟨v, rest, e, h1, h2⟩ => ⟨v, rest, e, Rep.mono h c _ h1, RepL.mono h cs _ h2⟩
end
theorem RepL.length : ∀ {cs : List AV} {vs : List Value}, RepL g w cs vs → vs.length = cs.length
  | [], _, h => by simp [show _ = [] from h]
  | _ :: cs, _, ⟨_, _, e, _, h2⟩ => by subst e; simp [RepL.length h2]
theorem RepL.get : ∀ {cs : List AV} {vs : List Value} {i : Nat} {c : AV}, RepL g w cs vs → cs[i]? = some c → ∃ v, vs[i]? = some v ∧ Rep g w c v
  | c :: _, _, 0, _, ⟨v, rest, e, h1, _⟩, hi => by subst e; simp at hi; subst hi; exact ⟨v, rfl, h1⟩
  | _ :: cs, _, i + 1, _, ⟨v, rest, e, _, h2⟩, hi => by subst e; simpa using RepL.get h2 (by simpa using hi)
theorem RepL.nil : RepL g w [] [] := rfl
theorem RepL.cons {c : AV} {cs : List AV} {v : Value} {vs : List Value} (h : Rep g w c v) (hs : RepL g w cs vs) : RepL g w (c :: cs) (v :: vs) := ⟨v, vs, rfl, h, hs⟩
theorem RepL.append : ∀ {cs ds : List AV} {vs us : List Value}, RepL g w cs vs → RepL g w ds us → RepL g w (cs ++ ds) (vs ++ us)
  | [], _, _, _, h, k => by rw [show _ = [] from h]; exact k
  | _ :: _, _, _, _, ⟨v, rest, e, h1, h2⟩, k => by subst e; exact ⟨v, rest ++ _, rfl, h1, h2.append k⟩
theorem RepL.take : ∀ {cs : List AV} {vs : List Value} (n : Nat), RepL g w cs vs → RepL g w (cs.take n) (vs.take n)
  | [], _, n, h => by rw [show _ = [] from h]; simp [RepL.nil]
  | _ :: _, _, 0, _ => by simp [RepL.nil]
  | _ :: _, _, n + 1, ⟨v, rest, e, h1, h2⟩ => by subst e; exact ⟨v, rest.take n, rfl, h1, h2.take n⟩
theorem RepL.drop : ∀ {cs : List AV} {vs : List Value} (n : Nat), RepL g w cs vs → RepL g w (cs.drop n) (vs.drop n)
  | [], _, n, h => by rw [show _ = [] from h]; simp [RepL.nil]
  | _ :: _, _, 0, h => h
  | _ :: _, _, n + 1, ⟨v, rest, e, h1, h2⟩ => by subst e; exact h2.drop n
theorem RepL.set : ∀ {cs : List AV} {vs : List Value} {c : AV} {v : Value} (i : Nat), RepL g w cs vs → Rep g w c v → RepL g w (cs.set i c) (vs.set i v)
  | [], _, _, _, i, h, _ => by rw [show _ = [] from h]; simp [RepL.nil]
  | _ :: _, _, _, _, 0, ⟨v, rest, e, h1, h2⟩, k => by subst e; exact ⟨_, rest, rfl, k, h2⟩
  | _ :: _, _, _, _, i + 1, ⟨v, rest, e, h1, h2⟩, k => by subst e; exact ⟨v, _, rfl, h1, h2.set i k⟩
end
class Globals where
  table : List (Nat × AV)
  /-- How many cells such a variable has. -/
  ends : List (Nat × Nat)
def GlobOk [Globals] (im : Nat → Nat → Prop) (w : World) : Prop := (∀ p ∈ Globals.table, Rep ⟨[], [], im⟩ w (.rptr p.2) (.pointer (some ⟨p.1, 0, none⟩))) ∧ ∀ p ∈ Globals.ends, im p.1 p.2 ∧ w.cell? ⟨p.1, p.2, none⟩ = none
theorem GlobOk.mono [Globals] {im im' : Nat → Nat → Prop} {w w' : World} (h : ∀ b o, im b o → im' b o ∧ w'.cell? ⟨b, o, none⟩ = w.cell? ⟨b, o, none⟩) (hg : GlobOk im w) : GlobOk im' w' := ⟨fun p hp =>
  Rep.mono ⟨h, fun _ _ h => by simp at h, fun _ _ h => by simp at h⟩ _ _ (hg.1 p hp), fun p hp => ⟨(h _ _ (hg.2 p hp).1).1, (h _ _ (hg.2 p hp).1).2.trans (hg.2 p hp).2⟩⟩
theorem GlobOk.le [Globals] {g g' : Gh} {w w' : World} (h : Le g w g' w') (hg : GlobOk g.im w) : GlobOk g'.im w' := hg.mono h.im
theorem GlobOk.rep [Globals] {g : Gh} {w : World} (hg : GlobOk g.im w) {p : Nat × AV} (hp : p ∈ Globals.table) : Rep g w (.rptr p.2) (.pointer (some ⟨p.1, 0, none⟩)) :=
  Rep.mono (g := ⟨[], [], g.im⟩) (w := w) (g' := g) (w' := w) ⟨fun _ _ h => ⟨h, rfl⟩, fun _ _ h => by simp at h, fun _ _ h => by simp at h⟩ _ _ (hg.1 p hp)
def gget : List (Nat × AV) → Nat → Option AV
  | [], _ => none
  | (t, i) :: l, u => bif Nat.beq t u then some (.rptr i) else gget l u
theorem gget_mem : ∀ {l : List (Nat × AV)} {u : Nat} {x : AV}, gget l u = some x → ∃ y, x = .rptr y ∧ (u, y) ∈ l
  | (t, i) :: l, u, x, h => by
    unfold gget at h
    cases e : Nat.beq t u with
    | true =>
      rw [e] at h
      have := Nat.eq_of_beq_eq_true e
      subst this
      simp only [cond_true, Option.some.injEq] at h
      exact ⟨i, h.symm, by simp⟩
    | false =>
      rw [e] at h
      obtain ⟨y, h1, h2⟩ := gget_mem (l := l) (by simpa using h)
      exact ⟨y, h1, List.mem_cons_of_mem _ h2⟩
end Go.Av
namespace Go.Av
open Go
inductive Ob where
  | cells (cs : List AV)
  | map (es : List (AV × AV))
  | iter (s : List UInt8) (pos : Nat)
inductive Tok where
  | len (n : Nat)
  | vec (xs : List AV)
structure St where
  B : List Ob
  T : List Tok
abbrev InCells (w : World) (b sz o : Nat) (Vs : List Value) : Prop := InMemE ⟨[], [], fun _ _ => True⟩ w b sz o Vs
def TokOk (g : Gh) (w : World) (r : Rec) : Tok → Prop
  | .len n => r.n = n ∧ r.lo = n
  | .vec xs => r.n = xs.length ∧ r.lo = 0 ∧ r.n ≤ r.cap ∧ ∃ Vs, RepL g w xs Vs ∧ (r.base = none → Vs = []) ∧ (∀ V ∈ Vs, V.cells.size = r.sz) ∧
      ∀ p : Addr, r.base = some p → (p.spot = none ∨ r.cap = 0) ∧ InCells w p.block r.sz p.off Vs
theorem TokOk.mono {g g' : Gh} {w w' : World} (h : Le g w g' w') {r : Rec} (hc : ∀ b o, r.zone b o → w'.cell? ⟨b, o, none⟩ = w.cell? ⟨b, o, none⟩) {t : Tok} (ht : TokOk g w r t) : TokOk g' w' r t := by
  cases t with
  | len n => exact ht
  | vec xs =>
    obtain ⟨h1, h2, h3, Vs, h4, h5, h6, h7⟩ := ht
    refine ⟨h1, h2, h3, Vs, RepL.mono h _ _ h4, h5, h6, fun p hp => ⟨(h7 p hp).1, fun i V hi => ⟨((h7 p hp).2 i V hi).1, fun j u hj => ?_⟩⟩⟩
    obtain ⟨e1, e2⟩ := (h7 p hp).2 i V hi
    obtain ⟨_, e3, e4⟩ := e2 j u hj
    refine ⟨trivial, (hc _ _ ⟨p, hp, rfl, ?_, ?_⟩).trans e3, e4⟩
    · rw [h2]; omega
    · have hj' : j < r.sz := by have := (Array.getElem?_eq_some_iff.1 hj).1; omega
      have hil : i < xs.length := by have := (List.getElem?_eq_some_iff.1 hi).1; rw [h4.length] at this; exact this
      have : (i + 1) * r.sz ≤ r.cap * r.sz := Nat.mul_le_mul_right _ (by omega)
      rw [Nat.succ_mul] at this
      omega
def RepM (g : Gh) (w : World) : List (AV × AV) → List MapEntry → Prop
  | [], es => es = []
  | (k, v) :: l, es => ∃ e rest, es = e :: rest ∧ Rep g w k e.key ∧ Rep g w v e.val ∧ RepM g w l rest
def ObOk (g : Gh) (w : World) (b : Nat) : Ob → Prop
  | .cells cs => ∃ (vals : Array Value) (ty : TypeId), w.heap[b]? = some (.cells vals ty (0, 0)) ∧ RepL g w cs vals.toList ∧ ∀ u ∈ vals.toList, u.oneCell' = true
  | .map es => ∃ (ents : Array MapEntry) (clock : Nat), w.heap[b]? = some (.map ents clock) ∧ RepM g w es ents.toList
  | .iter s pos => w.heap[b]? = some (.stringIter ⟨s.toArray⟩ pos)
theorem RepM.mono {g g' : Gh} {w w' : World} (h : Le g w g' w') : ∀ (l : List (AV × AV)) (es : List MapEntry), RepM g w l es → RepM g' w' l es
  | [], _, hv => hv
  | (_, _) :: l, _, ⟨e, rest, he, h1, h2, h3⟩ => ⟨e, rest, he, Rep.mono h _ _ h1, Rep.mono h _ _ h2, RepM.mono h l _ h3⟩
theorem ObOk.mono {g g' : Gh} {w w' : World} (h : Le g w g' w') {b : Nat} {ob : Ob} (hb : w'.heap[b]? = w.heap[b]?) (ho : ObOk g w b ob) : ObOk g' w' b ob := by
  cases ob with
  | cells cs => obtain ⟨vals, ty, h1, h2, h3⟩ := ho; exact ⟨vals, ty, hb.trans h1, RepL.mono h _ _ h2, h3⟩
  | map es => obtain ⟨ents, clock, h1, h2⟩ := ho; exact ⟨ents, clock, hb.trans h1, RepM.mono h _ _ h2⟩
  | iter s pos => exact hb.trans ho
theorem ObOk.lt {g : Gh} {w : World} {b : Nat} {ob : Ob} (ho : ObOk g w b ob) : b < w.heap.size := by
  have : ∃ x, w.heap[b]? = some x := by
    cases ob with
    | cells cs => obtain ⟨vals, ty, h1, _⟩ := ho; exact ⟨_, h1⟩
    | map es => obtain ⟨ents, clock, h1, _⟩ := ho; exact ⟨_, h1⟩
    | iter s pos => exact ⟨_, ho⟩
  obtain ⟨x, hx⟩ := this
  exact (Array.getElem?_eq_some_iff.1 hx).1
structure Inv [Globals] (g : Gh) (σ : St) (w : World) : Prop where
  lenB : g.bx.length = σ.B.length
  lenT : g.tk.length = σ.T.length
  ob : ∀ (i b : Nat) (ob : Ob), g.bx[i]? = some b → σ.B[i]? = some ob → ObOk g w b ob
  nodup : g.bx.Nodup
  noim : ∀ b, b ∈ g.bx → ∀ o, ¬ g.im b o
  tok : ∀ (k : Nat) (t : Tok) (r : Rec), g.tk[k]? = some r → σ.T[k]? = some t → TokOk g w r t
  tkz : ∀ (k : Nat) (r : Rec), g.tk[k]? = some r → ∀ b o, r.zone b o → ¬ g.im b o ∧ b ∉ g.bx ∧ (∃ v, w.cell? ⟨b, o, none⟩ = some v) ∧ w.frozen? ⟨b, o, none⟩ = false
  tkd : ∀ (k k' : Nat) (r r' : Rec), k ≠ k' → g.tk[k]? = some r → g.tk[k']? = some r' → ∀ b o, r.zone b o → ¬ r'.zone b o
  imlt : ∀ b o, g.im b o → b < w.heap.size
  gl : GlobOk g.im w
structure Ext (g : Gh) (w : World) (g' : Gh) (w' : World) : Prop where
  le : Le g w g' w'
  size : w.heap.size ≤ w'.heap.size
  os : w'.os = w.os
  tape : w'.tape = w.tape
  output : w'.output = w.output
  fr : ∀ b, b < w.heap.size → b ∉ g.bx → (∀ (k : Nat) (r : Rec), g.tk[k]? = some r → ∀ o, ¬ r.zone b o) → w'.heap[b]? = w.heap[b]?
  frc : ∀ b o, b < w.heap.size → b ∉ g.bx → (∀ (k : Nat) (r : Rec), g.tk[k]? = some r → ¬ r.zone b o) → w'.cell? ⟨b, o, none⟩ = w.cell? ⟨b, o, none⟩ ∧ w'.frozen? ⟨b, o, none⟩ = w.frozen? ⟨b, o, none⟩
  newim : ∀ b o, g'.im b o → g.im b o ∨ w.heap.size ≤ b ∨ ∃ (k : Nat) (r : Rec), g.tk[k]? = some r ∧ r.zone b o
  newbx : ∀ b, b ∈ g'.bx → b ∈ g.bx ∨ w.heap.size ≤ b
  newz : ∀ (k : Nat) (r' : Rec), g'.tk[k]? = some r' → ∀ b o, r'.zone b o → w.heap.size ≤ b ∨ ∃ r, g.tk[k]? = some r ∧ r.zone b o
theorem Ext.refl (g : Gh) (w : World) : Ext g w g w :=
  ⟨Le.refl g w, Nat.le_refl _, rfl, rfl, rfl, fun _ _ _ _ => rfl, fun _ _ _ _ _ => ⟨rfl, rfl⟩, fun _ _ h => .inl h, fun _ h => .inl h, fun _ r h _ _ hz => .inr ⟨r, h, hz⟩⟩
theorem Ext.trans {g g1 g2 : Gh} {w w1 w2 : World} (h : Ext g w g1 w1) (k : Ext g1 w1 g2 w2) : Ext g w g2 w2 where
  le := h.le.trans k.le
  size := Nat.le_trans h.size k.size
  os := k.os.trans h.os
  tape := k.tape.trans h.tape
  output := k.output.trans h.output
  fr b hb hn hz := by
    have hn1 : b ∉ g1.bx := fun hm => (h.newbx b hm).elim hn (fun hs => by omega)
    refine (k.fr b (Nat.lt_of_lt_of_le hb h.size) hn1 (fun i r hr o ho => ?_)).trans (h.fr b hb hn hz)
    rcases h.newz i r hr b o ho with hs | ⟨r0, h0, hz0⟩
    · omega
    · exact hz i r0 h0 o hz0
  frc b o hb hn hz := by
    have hn1 : b ∉ g1.bx := fun hm => (h.newbx b hm).elim hn (fun hs => by omega)
    have h1 := h.frc b o hb hn hz
    have h2 := k.frc b o (Nat.lt_of_lt_of_le hb h.size) hn1 (fun i r hr ho => by
      rcases h.newz i r hr b o ho with hs | ⟨r0, h0, hz0⟩
      · omega
      · exact hz i r0 h0 hz0)
    exact ⟨h2.1.trans h1.1, h2.2.trans h1.2⟩
  newim b o hi := by
    rcases k.newim b o hi with hi | hs | ⟨i, r, hr, hz⟩
    · exact h.newim b o hi
    · exact .inr (.inl (Nat.le_trans h.size hs))
    · rcases h.newz i r hr b o hz with hs | ⟨r0, h0, hz0⟩
      · exact .inr (.inl hs)
      · exact .inr (.inr ⟨i, r0, h0, hz0⟩)
  newbx b hm := by
    rcases k.newbx b hm with hm | hs
    · exact h.newbx b hm
    · exact .inr (Nat.le_trans h.size hs)
  newz i r' hr b o hz := by
    rcases k.newz i r' hr b o hz with hs | ⟨r1, h1, hz1⟩
    · exact .inl (Nat.le_trans h.size hs)
    · exact h.newz i r1 h1 b o hz1
theorem Ext.drew (g : Gh) (w : World) (n : Nat) : Ext g w g { w with drawn := n } :=
  ⟨⟨fun _ _ h => ⟨h, rfl⟩, fun _ _ h => h, fun _ r h => ⟨r, h, .inl rfl⟩⟩, Nat.le_refl _, rfl, rfl, rfl, fun _ _ _ _ => rfl, fun _ _ _ _ _ => ⟨rfl, rfl⟩, fun _ _ h => .inl h, fun _ h => .inl h, fun _ r h _ _ hz => .inr ⟨r, h, hz⟩⟩
theorem Inv.drew [Globals] {g : Gh} {σ : St} {w : World} (h : Inv g σ w) (n : Nat) : Inv g σ { w with drawn := n } where
  lenB := h.lenB
  lenT := h.lenT
  ob i b ob h1 h2 := (h.ob i b ob h1 h2).mono (w' := { w with drawn := n }) (Ext.drew g w n).le rfl
  nodup := h.nodup
  noim := h.noim
  tok k t r h1 h2 := (h.tok k t r h1 h2).mono (w' := { w with drawn := n }) (Ext.drew g w n).le fun _ _ _ => rfl
  tkz := h.tkz
  tkd := h.tkd
  imlt := h.imlt
  gl := GlobOk.le (Ext.drew g w n).le h.gl
theorem Inv.tkn [Globals] {g : Gh} {σ : St} {w : World} (h : Inv g σ w) {k n : Nat} {r : Rec} (h1 : g.tk[k]? = some r) (h2 : σ.T[k]? = some (.len n)) : r.n = n ∧ r.lo = n := h.tok k _ r h1 h2
abbrev Slots := List (Nat × AV)
def lk : Slots → Nat → AV
  | [], _ => .undef
  | (t, v) :: s, u => bif Nat.beq t u then v else lk s u
def SRep (g : Gh) (w : World) (s : Slots) (tmps : Array Value) : Prop := ∀ t, Rep g w (lk s t) (tmps.getD t undef)
theorem SRep.mono {g g' : Gh} {w w' : World} (h : Le g w g' w') {s : Slots} {tmps : Array Value} (hs : SRep g w s tmps) : SRep g' w' s tmps := fun t => Rep.mono h _ _ (hs t)
theorem SRep.put {g : Gh} {w : World} {s : Slots} {a : Act} {d : Nat} {v : AV} {u : Value} (hs : SRep g w s a.tmps) (hd : d < a.tmps.size) (hv : Rep g w v u) :
    SRep g w ((d, v) :: s) (a.put (some d) u).tmps := by
  intro t
  unfold lk
  by_cases e : d = t
  · subst e
    simp [Act.put, hd, hv]
  · have hb : Nat.beq d t = false := by
      cases h : Nat.beq d t with
      | false => rfl
      | true => exact absurd (Nat.eq_of_beq_eq_true h) e
    rw [hb]
    simpa [Act.put, Array.getElem?_setIfInBounds, e] using hs t
def ofCell : Value → AV
  | .bool b => .bool b
  | .int k n => .int k n
  | .string s => .str s.data.toList
  | .pointer none => .nilp
  | .slice none 0 0 => .slice [] .nil
  | .map none => .nilmap
  | .nilFunc => .nilfn
  | .nilIface => .nili
  | _ => .undef
def ofConst : Value → AV
  | .agg cs => bif cs.toList.all (·.oneCell') then .agg (cs.toList.map ofCell) else .undef
  | v => ofCell v
def ev [Globals] (s : Slots) : Operand → AV
  | .tmp t => lk s t
  | .const v => ofConst v
  | .global g => (gget Globals.table g).getD .undef
  | .func f => .fn (.func f) [] []
theorem rep_ofCell (g : Gh) (w : World) (v : Value) : Rep g w (ofCell v) v := by
  cases v with
  | bool b => rfl
  | int k n => rfl
  | string s => show _ = _; cases s; simp
  | pointer a => cases a <;> first | rfl | trivial
  | slice a l c =>
    cases a with
    | some a => trivial
    | none =>
      cases l with
      | succ l => trivial
      | zero =>
        cases c with
        | succ c => trivial
        | zero => exact ⟨none, 0, 0, [], rfl, Nat.le_refl _, by simp [maxLen], ⟨rfl, rfl⟩, rfl, fun _ => ⟨rfl, rfl⟩, fun p hp => by cases hp⟩
  | map r => cases r <;> first | rfl | trivial
  | _ => first | rfl | trivial
theorem repL_ofCell (g : Gh) (w : World) : ∀ vs : List Value, RepL g w (vs.map ofCell) vs
  | [] => rfl
  | v :: vs => ⟨v, vs, rfl, rep_ofCell g w v, repL_ofCell g w vs⟩
theorem rep_ofConst (g : Gh) (w : World) (v : Value) : Rep g w (ofConst v) v := by
  cases v with
  | agg cs =>
    simp only [ofConst]
    cases h : cs.toList.all (·.oneCell') with
    | false => trivial
    | true => exact ⟨cs, rfl, repL_ofCell g w _, List.all_eq_true.1 h⟩
  | bool b => exact rep_ofCell g w (.bool b)
  | int k n => exact rep_ofCell g w (.int k n)
  | string s => exact rep_ofCell g w (.string s)
  | pointer p => exact rep_ofCell g w (.pointer p)
  | slice p l c => exact rep_ofCell g w (.slice p l c)
  | map r => exact rep_ofCell g w (.map r)
  | nilFunc => exact rep_ofCell g w .nilFunc
  | nilIface => exact rep_ofCell g w .nilIface
  | _ => trivial
theorem rep_global [Globals] {g : Gh} {w : World} (hg : GlobOk g.im w) (i : Nat) : Rep g w ((gget Globals.table i).getD .undef) (.pointer (some ⟨i, 0, none⟩)) := by
  cases h : gget Globals.table i with
  | none => trivial
  | some x => obtain ⟨y, rfl, hm⟩ := gget_mem h; exact hg.rep hm
theorem rep_ev [Globals] {g : Gh} {w : World} {s : Slots} {a : Act} (hg : GlobOk g.im w) (hs : SRep g w s a.tmps) (x : Operand) : Rep g w (ev s x) (a.eval x) := by
  cases x with
  | tmp t => exact hs t
  | const v => exact rep_ofConst g w v
  | global i => exact rep_global hg i
  | func f => exact ⟨#[], #[], rfl, rfl, rfl⟩
def Step [Globals] (P : Program) (o : Oper) (s : Slots) (σ σ' : St) (v : AV) : Prop :=
  ∀ (g : Gh) (w : World) (a : Act) (next : Act → World → Prop) (Q : Exit → Act → World → Prop), Inv g σ w → (∀ x, x ∈ o.op.operands.toList → Rep g w (ev s x) (a.eval x)) →
    (∀ u w' g', Ext g w g' w' → Inv g' σ' w' → Rep g' w' v u → next (a.put o.dst u) w') → o.wp P a w next Q
inductive Tag where
  | pure | rb | wb | tk | all | rt
  | ri (i : Nat)
  | wi (i : Nat)
  deriving DecidableEq
def TStep [Globals] (t : Tag) (P : Program) (o : Oper) (s : Slots) (σ σ' : St) (v : AV) : Prop :=
  match t with
  | .pure => σ' = σ ∧ ∀ τ, Step P o s τ τ v
  | .rb => σ' = σ ∧ ∀ T, Step P o s ⟨σ.B, T⟩ ⟨σ.B, T⟩ v
  | .wb => σ'.T = σ.T ∧ ∀ T, Step P o s ⟨σ.B, T⟩ ⟨σ'.B, T⟩ v
  | .tk => σ'.B = σ.B ∧ ∀ B, Step P o s ⟨B, σ.T⟩ ⟨B, σ'.T⟩ v
  | .all => Step P o s σ σ' v
  | .rt => σ' = σ ∧ ∀ B, Step P o s ⟨B, σ.T⟩ ⟨B, σ.T⟩ v
  | .ri i => σ' = σ ∧ ∀ (B : List Ob) (T : List Tok), B[i]? = σ.B[i]? → Step P o s ⟨B, T⟩ ⟨B, T⟩ v
  | .wi i => ∃ ob, σ' = ⟨σ.B.set i ob, σ.T⟩ ∧ ∀ (B : List Ob) (T : List Tok), B[i]? = σ.B[i]? → Step P o s ⟨B, T⟩ ⟨B.set i ob, T⟩ v
theorem TStep.step [Globals] {t : Tag} {P : Program} {o : Oper} {s : Slots} {σ σ' : St} {v : AV} (h : TStep t P o s σ σ' v) : Step P o s σ σ' v := by
  cases t with
  | pure => obtain ⟨rfl, h⟩ := h; exact h _
  | rb => obtain ⟨rfl, h⟩ := h; exact h _
  | wb =>
    obtain ⟨e, h⟩ := h
    cases σ; cases σ'
    cases e
    exact h _
  | tk =>
    obtain ⟨e, h⟩ := h
    cases σ; cases σ'
    cases e
    exact h _
  | all => exact h
  | rt => obtain ⟨rfl, h⟩ := h; exact h _
  | ri i => obtain ⟨rfl, h⟩ := h; exact h _ _ rfl
  | wi i => obtain ⟨ob, rfl, h⟩ := h; exact h _ _ rfl
end Go.Av
