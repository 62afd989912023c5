/-
  append and make: a slice whose room is the walk's own.
-/
import Derived.Test.YtajddgpkflbnaaaAvFlat
import Derived.Laws.Append
set_option linter.unusedVariables false
namespace Go.Av
open Go
set_option linter.unusedSectionVars false
variable [Globals]

theorem zone_of {r : Rec} {b o : Nat} : r.zone b o ↔ ∃ p : Addr, r.base = some p ∧ p.block = b ∧ p.off + r.lo * r.sz ≤ o ∧ o < p.off + r.cap * r.sz := Iff.rfl

/-- The record of a token is written anew: its zone is a part of the old one, or lies in a new block. -/
structure Reown (g : Gh) (w : World) (k : Nat) (r' : Rec) (g' : Gh) (w' : World) : Prop where
  bx : g'.bx = g.bx
  tk : (k < g.tk.length ∧ g'.tk = g.tk.set k r') ∨ (k = g.tk.length ∧ g'.tk = g.tk ++ [r'])

section
variable {g : Gh} {σ : St} {w : World}

theorem Reown.get {k : Nat} {r' : Rec} {g' : Gh} {w' : World} (h : Reown g w k r' g' w') : g'.tk[k]? = some r' := by
  rcases h.tk with ⟨h1, h2⟩ | ⟨h1, h2⟩
  · rw [h2]; simp [h1]
  · rw [h2, h1]; simp
theorem Reown.other {k : Nat} {r' : Rec} {g' : Gh} {w' : World} (h : Reown g w k r' g' w') {j : Nat} (hj : j ≠ k) : g'.tk[j]? = g.tk[j]? := by
  rcases h.tk with ⟨h1, h2⟩ | ⟨h1, h2⟩
  · rw [h2]; simp [Ne.symm hj]
  · rw [h2]
    by_cases e : j < g.tk.length
    · rw [List.getElem?_append_left e]
    · have : g.tk.length ≤ j := by omega
      rw [List.getElem?_eq_none (by simp; omega), List.getElem?_eq_none this]

/-- Growth in a new block: n cells of it are data, what is behind is the token's. -/
theorem grow_new (hi : Inv g σ w) (cells : Array Value) (T : TypeId) {k n sz cap : Nat} (hsz : cap * sz = cells.size) (hn : n ≤ cap) {old : Option Rec} (hold : g.tk[k]? = old) (hk : k ≤ g.tk.length) (hgr : ∀ r, old = some r → r.n < n ∧ r.sz = sz) {T' : List Tok}
    (hT : (k < σ.T.length ∧ T' = σ.T.set k (.len n)) ∨ (k = σ.T.length ∧ T' = σ.T ++ [.len n])) :
    ∃ g', Reown g w k ⟨some ⟨w.heap.size, 0, none⟩, n, cap, sz, n⟩ g' (pushW w (.cells cells T)) ∧ Ext g w g' (pushW w (.cells cells T)) ∧ Inv g' ⟨σ.B, T'⟩ (pushW w (.cells cells T)) ∧
      (∀ o, o < n * sz → g'.im w.heap.size o) := by
  let r' : Rec := ⟨some ⟨w.heap.size, 0, none⟩, n, cap, sz, n⟩
  let im' : Nat → Nat → Prop := fun b o => g.im b o ∨ (b = w.heap.size ∧ o < n * sz)
  let tk' : List Rec := if k < g.tk.length then g.tk.set k r' else g.tk ++ [r']
  have hre : Reown g w k r' ⟨g.bx, tk', im'⟩ (pushW w (.cells cells T)) := by
    refine ⟨rfl, ?_⟩
    by_cases e : k < g.tk.length
    · exact .inl ⟨e, if_pos e⟩
    · exact .inr ⟨by omega, if_neg e⟩
  have hzone : ∀ b o, r'.zone b o → b = w.heap.size ∧ n * sz ≤ o ∧ o < cells.size := by
    rintro b o ⟨p, hp, rfl, h1, h2⟩
    cases hp
    refine ⟨rfl, by simpa using h1, ?_⟩
    rw [← hsz]
    simpa using h2
  have hle : Le g w ⟨g.bx, tk', im'⟩ (pushW w (.cells cells T)) := by
    refine ⟨fun b o h => ⟨.inl h, (cell_old (push_old w _ (hi.imlt b o h))).1⟩, fun _ _ h => h, fun j r hj => ?_⟩
    by_cases e : j = k
    · subst e
      exact ⟨r', hre.get, .inr ⟨(hgr r (hold ▸ hj)).1, (hgr r (hold ▸ hj)).2.symm⟩⟩
    · exact ⟨r, (hre.other e).trans hj, .inl rfl⟩
  refine ⟨⟨g.bx, tk', im'⟩, hre, ?_, ?_, fun o ho => .inr ⟨rfl, ho⟩⟩
  · refine ⟨hle, by rw [push_size]; omega, rfl, rfl, rfl, fun b hb _ _ => push_old w _ hb, fun b o' hb _ _ => cell_old (push_old w _ hb), fun b o' h => ?_, fun b hb => .inl hb, fun j r hj b o' ho => ?_⟩
    · rcases h with h | ⟨rfl, _⟩
      · exact .inl h
      · exact .inr (.inl (Nat.le_refl _))
    · by_cases e : j = k
      · subst e
        have : r = r' := Option.some.inj (hj.symm.trans hre.get)
        subst this
        exact .inl (by rw [(hzone b o' ho).1]; exact Nat.le_refl _)
      · exact .inr ⟨r, (hre.other e).symm.trans hj, ho⟩
  · refine ⟨hi.lenB, ?_, fun i b ob' h1 h2 => (hi.ob i b ob' h1 h2).mono hle (push_old w _ (hi.bx_lt (List.mem_of_getElem? h1))), hi.nodup, fun b hb o' h => ?_, fun j m r hj hm => ?_, fun j r hj b o' ho => ?_, fun j j' r r2 hne hj hj' b o' ho ho' => ?_, fun b o' h => ?_, hi.gl.le hle⟩
    · show tk'.length = T'.length
      have hlT := hi.lenT
      rcases hT with ⟨h1, rfl⟩ | ⟨h1, rfl⟩
      · rw [show tk' = g.tk.set k r' from if_pos (by omega)]; simp [hlT]
      · rw [show tk' = g.tk ++ [r'] from if_neg (by omega)]; simp [hlT]
    · rcases h with h | ⟨rfl, _⟩
      · exact hi.noim b hb o' h
      · have := hi.bx_lt hb; omega
    · by_cases e : j = k
      · subst e
        have : r = r' := Option.some.inj (hj.symm.trans hre.get)
        subst this
        rcases hT with ⟨h1, rfl⟩ | ⟨h1, rfl⟩
        · simp only [List.getElem?_set_self h1, Option.some.injEq] at hm; subst hm; exact ⟨rfl, rfl⟩
        · rw [h1] at hm; simp at hm; subst hm; exact ⟨rfl, rfl⟩
      · have hj0 : g.tk[j]? = some r := (hre.other e).symm.trans hj
        have hjl := (List.getElem?_eq_some_iff.1 hj0).1
        have hlT := hi.lenT
        refine (hi.tok j m r hj0 ?_).mono hle fun b o ho => (cell_old (push_old w _ (hi.z_lt hj0 ho))).1
        rcases hT with ⟨h1, rfl⟩ | ⟨h1, rfl⟩
        · simpa [Ne.symm e] using hm
        · have hjT : j < σ.T.length := by omega
          simpa [List.getElem?_append_left hjT] using hm
    · by_cases e : j = k
      · subst e
        have : r = r' := Option.some.inj (hj.symm.trans hre.get)
        subst this
        obtain ⟨rfl, h1, h2⟩ := hzone b o' ho
        refine ⟨fun h => ?_, fun hb => ?_, ?_, new_data_frozen w cells T o'⟩
        · rcases h with h | ⟨_, h⟩
          · have := hi.imlt _ _ h; omega
          · omega
        · have := hi.bx_lt hb; omega
        · rw [new_data_cell]; exact ⟨cells[o'], Array.getElem?_eq_getElem h2⟩
      · have hj0 : g.tk[j]? = some r := (hre.other e).symm.trans hj
        obtain ⟨h1, h2, h3, h4⟩ := hi.tkz j r hj0 b o' ho
        have hb := hi.z_lt hj0 ho
        have hc := cell_old (o := o') (push_old w (.cells cells T) hb)
        refine ⟨fun h => ?_, h2, by rw [hc.1]; exact h3, hc.2.trans h4⟩
        rcases h with h | ⟨rfl, _⟩
        · exact h1 h
        · omega
    · by_cases e : j = k
      · subst e
        have : r = r' := Option.some.inj (hj.symm.trans hre.get)
        subst this
        have hj0 : g.tk[j']? = some r2 := (hre.other (Ne.symm hne)).symm.trans hj'
        have hb := hi.z_lt hj0 ho'
        have := (hzone b o' ho).1
        omega
      · have hj0 : g.tk[j]? = some r := (hre.other e).symm.trans hj
        by_cases e' : j' = k
        · subst e'
          have : r2 = r' := Option.some.inj (hj'.symm.trans hre.get)
          subst this
          have hb := hi.z_lt hj0 ho
          have := (hzone b o' ho').1
          omega
        · exact hi.tkd j j' r r2 hne hj0 ((hre.other e').symm.trans hj') b o' ho ho'
    · rw [push_size]
      rcases h with h | ⟨rfl, _⟩
      · have := hi.imlt b o' h; omega
      · omega

/-- Growth in the token's own zone: the first of its cells become data. -/
theorem grow_here (hi : Inv g σ w) {k : Nat} {r : Rec} (hr : g.tk[k]? = some r) {p : Addr} (hp : r.base = some p) (hps : p.spot = none) {m : Nat} (hm : 0 < m) (hsz : 0 < r.sz) (hlo : r.lo = r.n) (hroom : r.n + m ≤ r.cap) {vs : List Value} (hvs : vs.length = m * r.sz) {w' : World}
    (hst : Stored w w' p.block (p.off + r.n * r.sz) vs) (hkT : k < σ.T.length) :
    ∃ g', Reown g w k ⟨r.base, r.n + m, r.cap, r.sz, r.n + m⟩ g' w' ∧ Ext g w g' w' ∧ Inv g' ⟨σ.B, σ.T.set k (.len (r.n + m))⟩ w' ∧
      (∀ b o, g.im b o → g'.im b o) ∧ (∀ j, j < m * r.sz → g'.im p.block (p.off + r.n * r.sz + j)) := by
  obtain ⟨pb, po, ps⟩ := p
  cases (show ps = none from hps)
  simp only at hst
  let r' : Rec := ⟨r.base, r.n + m, r.cap, r.sz, r.n + m⟩
  let im' : Nat → Nat → Prop := fun b o => g.im b o ∨ (b = pb ∧ po + r.n * r.sz ≤ o ∧ o < po + r.n * r.sz + m * r.sz)
  have hkl := (List.getElem?_eq_some_iff.1 hr).1
  have hre : Reown g w k r' ⟨g.bx, g.tk.set k r', im'⟩ w' := ⟨rfl, .inl ⟨hkl, rfl⟩⟩
  have hmul : (r.n + m) * r.sz = r.n * r.sz + m * r.sz := Nat.add_mul _ _ _
  have hcap : r.n * r.sz + m * r.sz ≤ r.cap * r.sz := by rw [← hmul]; exact Nat.mul_le_mul_right _ hroom
  -- what is written lay in the zone
  have hwz : ∀ o, po + r.n * r.sz ≤ o → o < po + r.n * r.sz + m * r.sz → r.zone pb o := fun o h1 h2 => ⟨⟨pb, po, none⟩, hp, rfl, by rw [hlo]; exact h1, by show o < po + r.cap * r.sz; omega⟩
  have hzz : ∀ b o, r'.zone b o → r.zone b o ∧ b = pb ∧ po + r.n * r.sz + m * r.sz ≤ o := by
    rintro b o ⟨q, hq, rfl, h1, h2⟩
    have : q = ⟨pb, po, none⟩ := Option.some.inj (hq.symm.trans hp)
    subst this
    have h1' : po + (r.n + m) * r.sz ≤ o := h1
    rw [hmul] at h1'
    exact ⟨⟨⟨pb, po, none⟩, hp, rfl, by rw [hlo]; show po + r.n * r.sz ≤ o; omega, h2⟩, rfl, by omega⟩
  have hcell : ∀ b o, ¬ (b = pb ∧ po + r.n * r.sz ≤ o ∧ o < po + r.n * r.sz + m * r.sz) → w'.cell? ⟨b, o, none⟩ = w.cell? ⟨b, o, none⟩ := by
    intro b o h
    by_cases e : b = pb
    · subst e
      exact hst.there o (by rw [hvs]; omega)
    · exact (cell_old (hst.block b e)).1
  have hfroz : ∀ b o, w'.frozen? ⟨b, o, none⟩ = w.frozen? ⟨b, o, none⟩ := by
    intro b o
    by_cases e : b = pb
    · subst e; exact hst.frozen o
    · exact (cell_old (hst.block b e)).2
  have himc : ∀ b o, g.im b o → w'.cell? ⟨b, o, none⟩ = w.cell? ⟨b, o, none⟩ := fun b o h => hcell b o fun ⟨e, h1, h2⟩ => by
    subst e
    exact (hi.tkz k r hr b o (hwz o h1 h2)).1 h
  have hle : Le g w ⟨g.bx, g.tk.set k r', im'⟩ w' := by
    refine ⟨fun b o h => ⟨.inl h, himc b o h⟩, fun _ _ h => h, fun j r0 hj => ?_⟩
    by_cases e : j = k
    · subst e
      rw [hr] at hj
      cases hj
      exact ⟨r', hre.get, .inr ⟨by show r.n < r.n + m; omega, rfl⟩⟩
    · exact ⟨r0, (hre.other e).trans hj, .inl rfl⟩
  refine ⟨⟨g.bx, g.tk.set k r', im'⟩, hre, ?_, ?_, fun _ _ h => .inl h, fun j hj => .inr ⟨rfl, by show po + r.n * r.sz ≤ po + r.n * r.sz + j; omega, by show po + r.n * r.sz + j < po + r.n * r.sz + m * r.sz; omega⟩⟩
  · refine ⟨hle, by rw [hst.size]; exact Nat.le_refl _, hst.os, hst.tape, hst.output, fun b hb hn hz => ?_, fun b o hb hn hz => ?_, fun b o h => ?_, fun b hb => .inl hb, fun j r0 hj b o ho => ?_⟩
    · by_cases e : b = pb
      · subst e
        -- the block holds the token's zone, unless nothing is written
        by_cases hz0 : m * r.sz = 0
        · exfalso
          rcases Nat.mul_eq_zero.1 hz0 with h | h
          · omega
          · omega
        · exact absurd (hwz (po + r.n * r.sz) (Nat.le_refl _) (by omega)) (hz k r hr _)
      · exact hst.block b e
    · have hnz := hz k r hr
      refine ⟨hcell b o fun ⟨e, h1, h2⟩ => hnz (by subst e; exact hwz o h1 h2), hfroz b o⟩
    · rcases h with h | ⟨rfl, h1, h2⟩
      · exact .inl h
      · exact .inr (.inr ⟨k, r, hr, hwz o h1 h2⟩)
    · by_cases e : j = k
      · subst e
        have : r0 = r' := Option.some.inj (hj.symm.trans hre.get)
        subst this
        exact .inr ⟨r, hr, (hzz b o ho).1⟩
      · exact .inr ⟨r0, (hre.other e).symm.trans hj, ho⟩
  · have hbm : ∀ b, b ∈ g.bx → w'.heap[b]? = w.heap[b]? := by
      intro b hb
      by_cases e : b = pb
      · subst e
        by_cases hz0 : m * r.sz = 0
        · exfalso
          rcases Nat.mul_eq_zero.1 hz0 with h | h
          · omega
          · omega
        · exact absurd hb (hi.tkz k r hr b _ (hwz (po + r.n * r.sz) (Nat.le_refl _) (by omega))).2.1
      · exact hst.block b e
    refine ⟨hi.lenB, by simpa using hi.lenT, fun i b ob' h1 h2 => (hi.ob i b ob' h1 h2).mono hle (hbm b (List.mem_of_getElem? h1)), hi.nodup, fun b hb o h => ?_, fun j n r0 hj hn => ?_, fun j r0 hj b o ho => ?_, fun j j' r0 r2 hne hj hj' b o ho ho' => ?_, fun b o h => ?_, hi.gl.le hle⟩
    · rcases h with h | ⟨rfl, h1, h2⟩
      · exact hi.noim b hb o h
      · exact (hi.tkz k r hr b o (hwz o h1 h2)).2.1 hb
    · by_cases e : j = k
      · subst e
        have : r0 = r' := Option.some.inj (hj.symm.trans hre.get)
        subst this
        simp only [List.getElem?_set_self hkT, Option.some.injEq] at hn
        subst hn
        exact ⟨rfl, rfl⟩
      · have hj0 : g.tk[j]? = some r0 := (hre.other e).symm.trans hj
        refine (hi.tok j n r0 hj0 (by simpa [Ne.symm e] using hn)).mono hle fun b o ho => hcell b o fun ⟨e', h1, h2⟩ => ?_
        subst e'
        exact hi.tkd j k r0 r e hj0 hr b o ho (hwz o h1 h2)
    · by_cases e : j = k
      · subst e
        have : r0 = r' := Option.some.inj (hj.symm.trans hre.get)
        subst this
        obtain ⟨hz, rfl, h3⟩ := hzz b o ho
        obtain ⟨h4, h5, h6, h7⟩ := hi.tkz j r hr b o hz
        refine ⟨fun h => ?_, h5, ?_, (hfroz b o).trans h7⟩
        · rcases h with h | ⟨_, h1, h2⟩
          · exact h4 h
          · omega
        · rw [hcell b o (fun ⟨_, h1, h2⟩ => by omega)]; exact h6
      · have hj0 : g.tk[j]? = some r0 := (hre.other e).symm.trans hj
        obtain ⟨h4, h5, h6, h7⟩ := hi.tkz j r0 hj0 b o ho
        have hnw : ¬ (b = pb ∧ po + r.n * r.sz ≤ o ∧ o < po + r.n * r.sz + m * r.sz) := fun ⟨e', h1, h2⟩ => by
          subst e'
          exact hi.tkd j k r0 r e hj0 hr b o ho (hwz o h1 h2)
        refine ⟨fun h => ?_, h5, by rw [hcell b o hnw]; exact h6, (hfroz b o).trans h7⟩
        rcases h with h | h
        · exact h4 h
        · exact hnw h
    · by_cases e : j = k
      · subst e
        have : r0 = r' := Option.some.inj (hj.symm.trans hre.get)
        subst this
        exact hi.tkd j j' r r2 hne hr ((hre.other (Ne.symm hne)).symm.trans hj') b o (hzz b o ho).1 ho'
      · have hj0 : g.tk[j]? = some r0 := (hre.other e).symm.trans hj
        by_cases e' : j' = k
        · subst e'
          have : r2 = r' := Option.some.inj (hj'.symm.trans hre.get)
          subst this
          exact hi.tkd j j' r0 r hne hj0 hr b o ho (hzz b o ho').1
        · exact hi.tkd j j' r0 r2 hne hj0 ((hre.other e').symm.trans hj') b o ho ho'
    · rw [hst.size]
      rcases h with h | ⟨rfl, h1, h2⟩
      · exact hi.imlt b o h
      · exact hi.z_lt hr (hwz o h1 h2)
end

def fitsAll (agg : Bool) (n : Nat) : List AV → Bool
  | [] => true
  | y :: ys => fits agg n y && fitsAll agg n ys
theorem fitsAll_spec {agg : Bool} {n : Nat} {g : Gh} {w : World} : ∀ {ys : List AV} {Vs : List Value}, fitsAll agg n ys = true → RepL g w ys Vs → ∀ V ∈ Vs, V.cells.size = n ∧ ∀ u ∈ V.cells.toList, u.oneCell' = true
  | [], _, _, h, V, hV => by rw [show _ = [] from h] at hV; cases hV
  | y :: ys, _, hf, ⟨v, rest, e, h1, h2⟩, V, hV => by
    simp only [fitsAll, Bool.and_eq_true] at hf
    subst e
    rcases List.mem_cons.1 hV with rfl | hV
    · obtain ⟨f1, _, _, f4⟩ := fits_spec hf.1 h1
      exact ⟨f1, f4⟩
    · exact fitsAll_spec hf.2 h2 V hV
theorem fitsAll_map {α : Type} {agg : Bool} {n : Nat} {f : α → AV} (h : ∀ x, fits agg n (f x) = true) : ∀ l : List α, fitsAll agg n (l.map f) = true
  | [] => rfl
  | x :: l => by simp [fitsAll, h x, fitsAll_map h l]

def setTK : Nat → Tok → List Tok → (List Tok → Option (List Tok)) → Option (List Tok)
  | 0, v, _ :: T, k => k (v :: T)
  | n + 1, v, x :: T, k => setTK n v T fun r => k (x :: r)
  | _, _, [], _ => none
theorem setTK_spec : ∀ (n : Nat) (v : Tok) (T : List Tok) (k : List Tok → Option (List Tok)) (r : List Tok), setTK n v T k = some r → n < T.length ∧ k (T.set n v) = some r
  | 0, v, x :: T, k, r, h => ⟨by simp, h⟩
  | n + 1, v, x :: T, k, r, h => by
    have := setTK_spec n v T _ r h
    exact ⟨by simpa using this.1, by simpa using this.2⟩
  | 0, v, [], k, r, h => by cases h
  | n + 1, v, [], k, r, h => by cases h

section rules
variable {P : Program} [Lay P] {all : Array Oper} {draw : Bool} {K : AX → Slots → St → Prop} {rest : List Oper} {acc : List Tag} {s : Slots} {σ : St}
variable {d : Tmp} {ty : TypeId} {pos : String} {af : Array Edge}

/-- What a source of append reads as. -/
structure Src (g : Gh) (w : World) (sz : Nat) (ys : List AV) (u : Value) (Ys : List Value) : Prop where
  rep : RepL g w ys Ys
  size : ∀ V ∈ Ys, V.cells.size = sz
  one : ∀ v ∈ flat Ys, v.oneCell' = true
  form : (∃ (a : Addr) (c : Nat), u = .slice (some a) Ys.length c ∧ ∀ (j : Nat) (v : Value), (flat Ys)[j]? = some v → w.cell? (a.add j) = some v ∧ g.im a.block (a.off + j)) ∨ (u = .slice none 0 0 ∧ Ys = [])

theorem src_of {te : TI} {ys : List AV} {t : Tk} {g : Gh} {w : World} {u : Value} (h : Rep g w (.slice ys t) u) (hf : fitsAll te.agg te.size ys = true) : ∃ Ys, Src g w te.size ys u Ys := by
  obtain ⟨a, cap, sz, Vs, rfl, h1, h2, h3, h4, h5, h6⟩ := h
  have hs := fitsAll_spec hf h4
  refine ⟨Vs, h4, fun V hV => (hs V hV).1, fun v hv => ?_, ?_⟩
  · obtain ⟨V, hV, hv⟩ := List.mem_flatMap.1 hv
    exact (hs V hV).2 v hv
  · cases a with
    | none => obtain ⟨rfl, rfl⟩ := h5 rfl; exact .inr ⟨rfl, rfl⟩
    | some p =>
      obtain ⟨pb, po, ps⟩ := p
      obtain ⟨e, hm⟩ := h6 _ rfl
      refine .inl ⟨_, cap, rfl, fun j v hj => ?_⟩
      cases (show ps = none from e.resolve_right (fun e => by subst e; simp [flat] at hj))
      obtain ⟨m1, m2, _⟩ := hm.flat hj
      rw [addr_add]
      exact ⟨m2, m1⟩

/-- Growth: a new block with the old elements, the new ones, and room. -/
theorem grown_rep {g g' : Gh} {w : World} {sz n cap : Nat} {xs ys : List AV} {Us Ys : List Value} {cells : Array Value} {T : TypeId} (hle : Le g w g' (pushW w (.cells cells T))) (hU : RepL g w xs Us) (hY : RepL g w ys Ys) (hus : ∀ V ∈ Us, V.cells.size = sz) (hys : ∀ V ∈ Ys, V.cells.size = sz)
    (ho : ∀ v ∈ flat Us ++ flat Ys, v.oneCell' = true) (hcells : ∀ (j : Nat) (v : Value), (flat Us ++ flat Ys)[j]? = some v → cells[j]? = some v) (hn : Us.length + Ys.length = n) (hcap : n ≤ cap) (hmax : cap ≤ maxLen)
    {k : Nat} (hk : g'.tk[k]? = some ⟨some ⟨w.heap.size, 0, none⟩, n, cap, sz, n⟩) (him : ∀ o, o < n * sz → g'.im w.heap.size o) :
    Rep g' (pushW w (.cells cells T)) (.slice (xs ++ ys) (.own k sz)) (.slice (some ⟨w.heap.size, 0, none⟩) n cap) := by
  have hall : ∀ V ∈ Us ++ Ys, V.cells.size = sz := fun V hV => (List.mem_append.1 hV).elim (hus V) (hys V)
  have hlen : (Us ++ Ys).length = n := by rw [List.length_append, hn]
  refine ⟨some ⟨w.heap.size, 0, none⟩, cap, sz, Us ++ Ys, by rw [hlen], by rw [hlen]; exact hcap, hmax, ⟨.inl rfl, _, hk, rfl, by rw [hlen]; exact Nat.le_refl _, fun _ => ⟨rfl, rfl, .inr fun p hp => by cases hp; rfl⟩⟩, (RepL.mono hle _ _ hU).append (RepL.mono hle _ _ hY), (fun h => by cases h), fun p hp => ?_⟩
  cases hp
  refine ⟨.inl rfl, inMemE_of_flat hall fun j u hj => ?_⟩
  rw [flat_append] at hj
  have hjl : j < n * sz := by
    have := (List.getElem?_eq_some_iff.1 hj).1
    rw [List.length_append, flat_length hus, flat_length hys, ← Nat.add_mul, hn] at this
    exact this
  show g'.im w.heap.size (0 + j) ∧ (pushW w (.cells cells T)).cell? ⟨w.heap.size, 0 + j, none⟩ = some u ∧ u.oneCell' = true
  rw [Nat.zero_add, new_data_cell]
  exact ⟨him j hjl, hcells j u hj, ho u (List.mem_of_getElem? hj)⟩

/-- What append does to a slice that is the walk's own. -/
theorem append_own_sem {T ty : TypeId} {xs ys : List AV} {k z n : Nat} {ti te : TI} (hT : ty? P T = some ti) (hk : ti.kind = .slice) (hE : ty? P ti.elem = some te) (hzz : te.size = z) (hz0 : 0 < z)
    {g : Gh} {w : World} (hI : Inv g σ w) {ux uy : Value} (h1 : Rep g w (.slice xs (.own k z)) ux) {Ys : List Value} (hsrc : Src g w te.size ys uy Ys) (hTk : σ.T[k]? = some (.len n)) (hn : xs.length = n)
    (hb : (n + ys.length) * te.bytes ≤ 140737488355328) (hb' : n + ys.length ≤ 4611686018427387904) :
    ∃ v w' g', (Builtin.append_ #[T, T] ty #[ux, uy]).run P w = .ok v w' ∧ Ext g w g' w' ∧ Inv g' ⟨σ.B, σ.T.set k (.len (n + ys.length))⟩ w' ∧ Rep g' w' (.slice (xs ++ ys) (.own k z)) v := by
  have hyl : Ys.length = ys.length := hsrc.rep.length
  have kl : k < σ.T.length := (List.getElem?_eq_some_iff.1 hTk).1
  obtain ⟨a0, cap, sz, Us, rfl, c1, c2, ⟨c3, r, hr, hrz, c4, c5⟩, hl, c6, c7⟩ := h1
  have hul : Us.length = n := by rw [← hn]; exact hl.length
  obtain ⟨hrn, hrl⟩ := hI.tkn hr hTk
  obtain ⟨c8, c9, c10⟩ := c5 (by rw [hul, hrn])
  obtain ⟨info, dd, z0, t1, t2, t3, t4, _⟩ := (ty_ok hT).ex
  have hd : ∃ e, dd = .slice e := by rw [hk] at t3; cases dd <;> first | exact ⟨_, rfl⟩ | cases t3
  obtain ⟨el, rfl⟩ := hd
  have hel : el = ti.elem := t4
  subst hel
  obtain ⟨ie, de, ze, u1, u2, u3, u4, u5, u6, u7, u8, u9, u10, u11, u12, u13⟩ := (ty_ok hE).ex
  have hus : ∀ V ∈ Us, V.cells.size = z := by
    intro V hV
    rcases c3 with rfl | c3
    · cases a0 with
      | none => rw [(c6 rfl).1] at hV; cases hV
      | some p =>
        obtain ⟨i, hi⟩ := List.getElem?_of_mem hV
        exact ((c7 p rfl).2 i V hi).1
    · have := List.eq_nil_of_length_eq_zero c3
      subst this
      cases hV
  have hys : ∀ V ∈ Ys, V.cells.size = z := fun V hV => by rw [← hzz]; exact hsrc.size V hV
  by_cases hm : Ys.length = 0
  · -- nothing is appended
    have hYs := List.eq_nil_of_length_eq_zero hm
    subst hYs
    have hys0 : ys = [] := List.eq_nil_of_length_eq_zero (by rw [← hyl]; rfl)
    subst hys0
    refine ⟨.slice a0 Us.length cap, w, g, ?_, Ext.refl g w, ?_, ?_⟩
    · rcases hsrc.form with ⟨b, c, rfl, _⟩ | ⟨rfl, _⟩
      · have hfc : (Builtin.firstCells ie.size 0 (.slice (some b) 0 c)).run P w = .ok #[] w := by simp [Builtin.firstCells, loadCells, loadCellsFrom]
        cases a0 <;> simp [Builtin.append_, run_underlying t2, sizeOf, typeInfo, u1, Builtin.lenOf, c1, hfc, storeCells]
      · cases a0 <;> simp [Builtin.append_, run_underlying t2, sizeOf, typeInfo, u1, Builtin.lenOf, c1, Builtin.firstCells, storeCells]
    · have hTs : σ.T.set k (.len (n + ([] : List AV).length)) = σ.T := by
        apply List.ext_getElem?
        intro i
        by_cases e : i = k
        · subst e; rw [List.getElem?_set_self kl, hTk]; rfl
        · rw [List.getElem?_set_ne (Ne.symm e)]
      rw [hTs]
      exact hI
    · rw [List.append_nil]
      exact ⟨a0, cap, sz, Us, rfl, c1, c2, ⟨c3, r, hr, hrz, c4, c5⟩, hl, c6, c7⟩
  · have hm0 : 0 < Ys.length := by omega
    rcases hsrc.form with ⟨sb, sc, rfl, hscell⟩ | ⟨_, e⟩
    case inr => rw [e] at hm0; simp at hm0
    have hfl : (flat Ys).length = Ys.length * ie.size := by rw [u6, hzz]; exact flat_length hys
    have hful : (flat Us).length = Us.length * ie.size := by rw [u6, hzz]; exact flat_length hus
    have hmax : Us.length + Ys.length ≤ maxLen := by unfold maxLen; omega
    have hfit : ∀ old, old < Us.length + Ys.length → Builtin.nextslicecap (Us.length + Ys.length) old * ie.bytes ≤ 281474976710656 := fun old h => growslice_fits h (by rw [hul, hyl, u7]; exact hb)
    have hzc : ze.cells.size = z := u10.trans hzz
    -- growth
    have grow : ∀ (old : Nat) (hold : ∀ v ∈ flat Us, v.oneCell' = true), old < Us.length + Ys.length → ∃ g',
        Ext g w g' (w.drew.alloc (.cells ((flat Us).toArray ++ (flat Ys).toArray ++ Builtin.zeroCells ze.cells (grownCap w (Us.length + Ys.length) old ti.elem - (Us.length + Ys.length))) ti.elem)) ∧
        Inv g' ⟨σ.B, σ.T.set k (.len (n + ys.length))⟩ (w.drew.alloc (.cells ((flat Us).toArray ++ (flat Ys).toArray ++ Builtin.zeroCells ze.cells (grownCap w (Us.length + Ys.length) old ti.elem - (Us.length + Ys.length))) ti.elem)) ∧
        Rep g' (w.drew.alloc (.cells ((flat Us).toArray ++ (flat Ys).toArray ++ Builtin.zeroCells ze.cells (grownCap w (Us.length + Ys.length) old ti.elem - (Us.length + Ys.length))) ti.elem)) (.slice (xs ++ ys) (.own k z))
          (.slice (some ⟨w.heap.size, 0, none⟩) (Us.length + Ys.length) (grownCap w (Us.length + Ys.length) old ti.elem)) := by
      intro old hold1 hold
      have hge := grownCap_ge w (Us.length + Ys.length) old ti.elem
      have hle2 := grownCap_le_maxLen w (Us.length + Ys.length) old ti.elem hmax
      have hsize : grownCap w (Us.length + Ys.length) old ti.elem * z = ((flat Us).toArray ++ (flat Ys).toArray ++ Builtin.zeroCells ze.cells (grownCap w (Us.length + Ys.length) old ti.elem - (Us.length + Ys.length))).size := by
        simp only [Array.size_append, List.size_toArray, size_zeroCells, hzc, flat_length hus, flat_length hys, ← Nat.add_mul]
        congr 1
        omega
      obtain ⟨g', n1, n2, n3, n4⟩ := grow_new (hI.drew (w.drawn + 1)) ((flat Us).toArray ++ (flat Ys).toArray ++ Builtin.zeroCells ze.cells (grownCap w (Us.length + Ys.length) old ti.elem - (Us.length + Ys.length))) ti.elem (k := k) (n := Us.length + Ys.length) (sz := z)
        hsize hge (old := some r) hr (Nat.le_of_lt (List.getElem?_eq_some_iff.1 hr).1) (fun r' h => by cases h; exact ⟨by omega, hrz⟩) (T' := σ.T.set k (.len (n + ys.length))) (.inl ⟨kl, by rw [hul, hyl]⟩)
      refine ⟨g', (Ext.drew g w _).trans n2, n3, ?_⟩
      refine grown_rep (g := g) (w := w.drew) (n := Us.length + Ys.length) n2.le (RepL.mono (Ext.drew g w (w.drawn + 1)).le _ _ hl) (RepL.mono (Ext.drew g w (w.drawn + 1)).le _ _ hsrc.rep) hus hys (fun v hv => (List.mem_append.1 hv).elim (hold1 v) (hsrc.one v)) (fun j v hj => ?_) rfl hge hle2 n1.get n4
      have hlt := (List.getElem?_eq_some_iff.1 hj).1
      rw [← Array.getElem?_toList, Array.toList_append, Array.toList_append, List.getElem?_append_left (by simpa using hlt)]
      simpa using hj
    cases a0 with
    | none =>
      obtain ⟨rfl, rfl⟩ := c6 rfl
      have hxs : xs = [] := List.eq_nil_of_length_eq_zero (by rw [hn, ← hul]; rfl)
      subst hxs
      obtain ⟨g', n1, n2, n3⟩ := grow 0 (by simp [flat]) (by simpa using hm0)
      have hrun := run_append_nil (P := P) w T ty ti.elem ie ze t2 u1 u8 sb Ys.length sc (flat Ys) hfl (fun j v hj => (hscell j v hj).1) hm0 (by have := hmax; unfold maxLen at this; simp at this; omega) (by have := hfit 0 (by simpa using hm0); rw [show ([] : List Value).length + Ys.length = Ys.length by simp, nextslicecap_zero hm0] at this; exact this)
      refine ⟨_, _, g', hrun, ?_, ?_, ?_⟩
      · simpa [flat] using n1
      · simpa [flat] using n2
      · simpa [flat] using n3
    | some p =>
      obtain ⟨e, hmem⟩ := c7 p rfl
      by_cases hps : p.spot = none
      case neg =>
        have hU := e.resolve_left hps
        subst hU
        have hc0 : cap = 0 := c10.resolve_right fun h => hps (h p rfl)
        subst hc0
        obtain ⟨g', n1, n2, n3⟩ := grow 0 (by simp [flat]) (by simpa using hm0)
        have hrun := run_append_grow (P := P) w T ty ti.elem ie ze t2 u1 u8 p ([] : List Value).length 0 (flat []) hful (fun j v hj => by simp [flat] at hj) sb Ys.length sc (flat Ys) hfl (fun j v hj => (hscell j v hj).1) (by simpa using hm0) (by have := hmax; unfold maxLen at this; omega) (hfit 0 (by simpa using hm0))
        exact ⟨_, _, g', hrun, n1, n2, n3⟩
      obtain ⟨pb, po, ps⟩ := p
      cases (show ps = none from hps)
      have hszz : sz = z ∨ Us = [] := c3.imp id List.eq_nil_of_length_eq_zero
      have hfU : ∀ (j : Nat) (v : Value), (flat Us)[j]? = some v → w.cell? ((⟨pb, po, none⟩ : Addr).add j) = some v ∧ v.oneCell' = true ∧ g.im pb (po + j) := fun j v hj => by
        obtain ⟨m1, m2, m3⟩ := hmem.flat hj
        rw [addr_add]
        exact ⟨m2, m3, m1⟩
      have hone : ∀ v ∈ flat Us, v.oneCell' = true := fun v hv => by
        obtain ⟨j, hj⟩ := List.getElem?_of_mem hv
        exact (hfU j v hj).2.1
      by_cases hroom : Us.length + Ys.length ≤ cap
      · -- there is room
        have hfc : (Builtin.firstCells ie.size Ys.length (.slice (some sb) Ys.length sc)).run P w = .ok (flat Ys).toArray w := run_firstCells_some (P := P) w ie.size Ys.length sb Ys.length sc (flat Ys) hfl (fun j v hj => (hscell j v hj).1)
        have hzr : ∀ j, j < (flat Ys).length → r.zone pb (po + r.n * r.sz + j) := fun j hj => ⟨⟨pb, po, none⟩, c8, rfl, by rw [hrl, ← hrn]; show po + r.n * r.sz ≤ po + r.n * r.sz + j; omega, by
          show po + r.n * r.sz + j < po + r.cap * r.sz
          rw [hfl, u6, hzz] at hj
          have h3 : (Us.length + Ys.length) * z ≤ cap * z := Nat.mul_le_mul_right _ hroom
          rw [Nat.add_mul] at h3
          rw [hrn, hrz, c9, ← hul]
          omega⟩
        obtain ⟨w', hst, hs⟩ := run_stored (P := P) pb (flat Ys) 0 (po + r.n * r.sz) w (fun j hj => (hI.tkz k r hr pb _ (by simpa using hzr j hj)).2.2.1) (fun j hj => (hI.tkz k r hr pb _ (by simpa using hzr j hj)).2.2.2) hsrc.one
        obtain ⟨g', n1, n2, n3, n4, n5⟩ := grow_here hI hr c8 rfl hm0 (by omega) (by rw [hrl, hrn]) (by rw [hrn, c9, ← hul]; exact hroom) (by rw [hfl, u6, hzz, hrz]) hs kl
        refine ⟨.slice (some ⟨pb, po, none⟩) (Us.length + Ys.length) cap, w', g', ?_, n2, by rw [← hyl, ← hrn]; exact n3, ?_⟩
        · have hadd : (⟨pb, po, none⟩ : Addr).add (Us.length * ie.size) = ⟨pb, po + r.n * r.sz, none⟩ := by rw [addr_add, u6, hzz, hrz, hrn, hul]
          simp [Builtin.append_, run_underlying t2, sizeOf, typeInfo, u1, Builtin.lenOf, hroom, hfc, hadd, hst]
        · have hall : ∀ V ∈ Us ++ Ys, V.cells.size = z := fun V hV => (List.mem_append.1 hV).elim (hus V) (hys V)
          have hlen : (Us ++ Ys).length = Us.length + Ys.length := List.length_append
          refine ⟨some ⟨pb, po, none⟩, cap, z, Us ++ Ys, by rw [hlen], by rw [hlen]; exact hroom, c2, ⟨.inl rfl, _, n1.get, hrz, ?_, fun _ => ⟨c8, c9, .inr fun p hp => by cases hp; rfl⟩⟩, (RepL.mono n2.le _ _ hl).append (RepL.mono n2.le _ _ hsrc.rep), (fun h => by cases h), fun q hq => ?_⟩
          · rw [hlen]
            show Us.length + Ys.length ≤ r.n + Ys.length
            omega
          · cases hq
            refine ⟨.inl rfl, inMemE_of_flat hall fun j u hj => ?_⟩
            rw [flat_append] at hj
            show g'.im pb (po + j) ∧ w'.cell? ⟨pb, po + j, none⟩ = some u ∧ u.oneCell' = true
            by_cases hjl : j < (flat Us).length
            · rw [List.getElem?_append_left hjl] at hj
              obtain ⟨m1, m2, m3⟩ := hfU j u hj
              rw [addr_add] at m1
              exact ⟨n4 _ _ m3, (n2.le.im _ _ m3).2.trans m1, m2⟩
            · rw [List.getElem?_append_right (by omega)] at hj
              have hful' : (flat Us).length = r.n * r.sz := by rw [hful, u6, hzz, hrz, hrn, hul]
              have hj' := hs.here (j - (flat Us).length) u hj
              have hjy := (List.getElem?_eq_some_iff.1 hj).1
              have hidx : po + r.n * r.sz + 0 + (j - (flat Us).length) = po + j := by rw [← hful']; omega
              have him := n5 (j - (flat Us).length) (by rw [hrz, ← hzz, ← u6, ← hfl]; exact hjy)
              simp only [Nat.add_zero] at hidx hj'
              rw [hidx] at hj' him
              exact ⟨him, hj', hsrc.one u (List.mem_of_getElem? hj)⟩
      · -- it must grow
        obtain ⟨g', n1, n2, n3⟩ := grow cap hone (by omega)
        have hrun := run_append_grow (P := P) w T ty ti.elem ie ze t2 u1 u8 ⟨pb, po, none⟩ Us.length cap (flat Us) hful (fun j v hj => (hfU j v hj).1) sb Ys.length sc (flat Ys) hfl (fun j v hj => (hscell j v hj).1) (by omega) (by have := hmax; unfold maxLen at this; omega) (hfit cap (by omega))
        exact ⟨_, _, g', hrun, n1, n2, n3⟩

omit [Lay P] in
theorem run_append_op {T : TypeId} {x y : Operand} {a : Act} {w w' : World} {v : Value} (h : (Builtin.append_ #[T, T] ty #[a.eval x, a.eval y]).run P w = .ok v w') :
    (execOp a.eval ⟨some d, .call ⟨.builtin .append, #[x, y], #[T, T]⟩, ty, pos, af, none⟩).run P w = .ok (.value v) w' := by
  have hmap : Array.map a.eval #[x, y] = #[a.eval x, a.eval y] := by simp
  simp only [execOp, resolve, Sem.run_bind, Sem.run_pure, Result.andThen, invoke, builtin, hmap, h]

/-- append to a slice that is the walk's own. -/
theorem A.append {T : TypeId} {x y : Operand} {xs ys : List AV} {t : Tk} {k z n : Nat} {ti te : TI} {T' : List Tok} (hT : ty? P T = some ti) (hk : ti.kind = .slice) (hE : ty? P ti.elem = some te) (hz : Nat.beq te.size z = true) (hz0 : Nat.blt 0 z = true)
    (hx : ev? s x = some (.slice xs (.own k z))) (hy : ev? s y = some (.slice ys t)) (hTk : σ.T[k]? = some (.len n)) (hn : xs.length = n) (hf : fitsAll te.agg te.size ys = true)
    (hb : (n + ys.length) * te.bytes ≤ 140737488355328) (hb' : n + ys.length ≤ 4611686018427387904) (hT' : setTK k (.len (n + ys.length)) σ.T some = some T')
    (kk : AOps P all draw K rest (.tk :: acc) ((d, .slice (xs ++ ys) (.own k z)) :: s) ⟨σ.B, T'⟩) : AOps P all draw K (⟨some d, .call ⟨.builtin .append, #[x, y], #[T, T]⟩, ty, pos, af, none⟩ :: rest) acc s σ :=
  A.step (t := .tk) (σ' := ⟨σ.B, T'⟩) rfl ⟨rfl, fun B => by
    intro g w a next Q hI ho hn'
    have h1 := op1 hx (by simp [Op.operands, Call.operands]) ho
    have h2 := op1 hy (by simp [Op.operands, Call.operands]) ho
    obtain ⟨Ys, hsrc⟩ := src_of h2 hf
    obtain ⟨kl, hTe⟩ := setTK_spec _ _ _ _ _ hT'
    obtain ⟨v, w', g', e1, e2, e3, e4⟩ := append_own_sem (σ := ⟨B, σ.T⟩) (ty := ty) hT hk hE (Nat.eq_of_beq_eq_true hz) (Nat.le_of_ble_eq_true hz0) hI h1 hsrc hTk hn hb hb'
    unfold Oper.wp
    rw [run_append_op e1]
    refine hn' v w' g' e2 ?_ e4
    rw [show (⟨σ.B, T'⟩ : St).T = T' from rfl, ← Option.some.inj hTe]
    exact e3⟩ kk
/-- Is there surely no room behind the slice? -/
def Tk.fresh : Tk → Bool
  | .full | .nil => true
  | _ => false

omit [Lay P] in
/-- A slice without room behind it is taken for the walk's own. -/
theorem adopt_sem {xs : List AV} {t : Tk} {agg : Bool} {z : Nat} (ht : t.fresh = true) (hf : fitsAll agg z xs = true) {g : Gh} {w : World} (hI : Inv g σ w) {u : Value} (h : Rep g w (.slice xs t) u) :
    ∃ g', Ext g w g' w ∧ Inv g' ⟨σ.B, σ.T ++ [.len xs.length]⟩ w ∧ Rep g' w (.slice xs (.own σ.T.length z)) u := by
  obtain ⟨a0, cap, sz, Us, rfl, c1, c2, c3, hl, c6, c7⟩ := h
  have hcap : cap = Us.length := by
    cases t with
    | full => exact c3.symm
    | nil => obtain ⟨rfl, rfl⟩ := c3; have := (c6 rfl).1; subst this; rfl
    | no => cases ht
    | nn => cases ht
    | own k z => cases ht
  subst hcap
  let r : Rec := ⟨a0, xs.length, Us.length, z, xs.length⟩
  have hul : Us.length = xs.length := hl.length
  have hnz : ∀ b o, ¬ r.zone b o := by
    rintro b o ⟨p, _, _, h1, h2⟩
    have h1' : p.off + xs.length * z ≤ o := h1
    have h2' : o < p.off + Us.length * z := h2
    rw [hul] at h2'
    omega
  have hold : ∀ (j : Nat) (r' : Rec), (g.tk ++ [r])[j]? = some r' → g.tk[j]? = some r' ∨ (j = g.tk.length ∧ r' = r) := by
    intro j r' hj
    by_cases e : j < g.tk.length
    · rw [List.getElem?_append_left e] at hj; exact .inl hj
    · have hlt := (List.getElem?_eq_some_iff.1 hj).1
      simp only [List.length_append, List.length_cons, List.length_nil] at hlt
      have : j = g.tk.length := by omega
      subst this
      simp at hj
      exact .inr ⟨rfl, hj.symm⟩
  have hle : Le g w ⟨g.bx, g.tk ++ [r], g.im⟩ w := ⟨fun _ _ h => ⟨h, rfl⟩, fun _ _ h => h, fun j r' hj => ⟨r', by rw [List.getElem?_append_left (List.getElem?_eq_some_iff.1 hj).1]; exact hj, .inl rfl⟩⟩
  refine ⟨⟨g.bx, g.tk ++ [r], g.im⟩, ⟨hle, Nat.le_refl _, rfl, rfl, rfl, fun _ _ _ _ => rfl, fun _ _ _ _ _ => ⟨rfl, rfl⟩, fun _ _ h => .inl h, fun _ h => .inl h, fun j r' hj b o ho => ?_⟩, ?_, ?_⟩
  · rcases hold j r' hj with h | ⟨_, rfl⟩
    · exact .inr ⟨r', h, ho⟩
    · exact absurd ho (hnz b o)
  · refine ⟨hI.lenB, by simp [hI.lenT], fun i b ob h1 h2 => (hI.ob i b ob h1 h2).mono hle rfl, hI.nodup, hI.noim, fun j n r' hj hn => ?_, fun j r' hj b o ho => ?_, fun j j' r1 r2 hne hj hj' b o ho ho' => ?_, hI.imlt, hI.gl⟩
    · rcases hold j r' hj with h | ⟨rfl, rfl⟩
      · have hjl := (List.getElem?_eq_some_iff.1 h).1
        refine (hI.tok j n r' h ?_).mono hle fun _ _ _ => rfl
        have : j < σ.T.length := by rw [← hI.lenT]; exact hjl
        simpa [List.getElem?_append_left this] using hn
      · rw [hI.lenT] at hn
        simp at hn
        subst hn
        exact ⟨rfl, rfl⟩
    · rcases hold j r' hj with h | ⟨_, rfl⟩
      · exact hI.tkz j r' h b o ho
      · exact absurd ho (hnz b o)
    · rcases hold j r1 hj with h | ⟨_, rfl⟩
      · rcases hold j' r2 hj' with h' | ⟨_, rfl⟩
        · exact hI.tkd j j' r1 r2 hne h h' b o ho ho'
        · exact absurd ho' (hnz b o)
      · exact absurd ho (hnz b o)
  · refine ⟨a0, Us.length, sz, Us, rfl, c1, c2, ⟨?_, r, ?_, rfl, ?_, fun _ => ⟨rfl, rfl, ?_⟩⟩, RepL.mono hle _ _ hl, c6, fun p hp => ⟨(c7 p hp).1, (c7 p hp).2.mono hle⟩⟩
    · rcases Nat.eq_zero_or_pos Us.length with e | e
      · exact .inr e
      · left
        obtain ⟨V, hV⟩ : ∃ V, Us[0]? = some V := ⟨Us[0], List.getElem?_eq_getElem e⟩
        have h1 := (fitsAll_spec hf hl V (List.mem_of_getElem? hV)).1
        cases a0 with
        | none => have := (c6 rfl).1; subst this; simp at e
        | some p => exact (((c7 p rfl).2 0 V hV).1).symm.trans h1
    · rw [← hI.lenT]; simp
    · rw [hul]; exact Nat.le_refl _
    · rcases Nat.eq_zero_or_pos Us.length with e | e
      · exact .inl e
      · exact .inr fun p hp => (c7 p hp).1.resolve_right (fun h => by rw [h] at e; simp at e)

/-- append to a slice without room behind it. -/
theorem A.append_new {T : TypeId} {x y : Operand} {xs ys : List AV} {t t' : Tk} {k n : Nat} {ti te : TI} {T' : List Tok} (hT : ty? P T = some ti) (hk : ti.kind = .slice) (hE : ty? P ti.elem = some te) (hz0 : Nat.blt 0 te.size = true)
    (hx : ev? s x = some (.slice xs t')) (ht : t'.fresh = true) (hfx : fitsAll te.agg te.size xs = true) (hy : ev? s y = some (.slice ys t)) (hkk : smallLen σ.T = some k) (hn : xs.length = n) (hf : fitsAll te.agg te.size ys = true)
    (hb : (n + ys.length) * te.bytes ≤ 140737488355328) (hb' : n + ys.length ≤ 4611686018427387904) (hT' : snocK σ.T (.len (n + ys.length)) some = some T')
    (kk : AOps P all draw K rest (.tk :: acc) ((d, .slice (xs ++ ys) (.own k te.size)) :: s) ⟨σ.B, T'⟩) : AOps P all draw K (⟨some d, .call ⟨.builtin .append, #[x, y], #[T, T]⟩, ty, pos, af, none⟩ :: rest) acc s σ :=
  A.step (t := .tk) (σ' := ⟨σ.B, T'⟩) rfl ⟨rfl, fun B => by
    intro g w a next Q hI ho hn'
    have h1 := op1 hx (by simp [Op.operands, Call.operands]) ho
    have h2 := op1 hy (by simp [Op.operands, Call.operands]) ho
    obtain ⟨g1, e1, e2, e3⟩ := adopt_sem ht hfx hI h1
    obtain ⟨Ys, hsrc⟩ := src_of (Rep.mono e1.le _ _ h2) hf
    have hkl : σ.T.length = k := smallLen_spec hkk
    have hTe : σ.T ++ [Tok.len (n + ys.length)] = T' := Option.some.inj (snocK_spec _ _ _ _ hT')
    obtain ⟨v, w', g', f1, f2, f3, f4⟩ := append_own_sem (σ := ⟨B, σ.T ++ [.len xs.length]⟩) (ty := ty) (n := n) hT hk hE rfl (Nat.le_of_ble_eq_true hz0) e2 e3 hsrc (by simp [hn]) hn hb hb'
    unfold Oper.wp
    rw [run_append_op f1]
    refine hn' v w' g' (e1.trans f2) ?_ (by rw [← hkl]; exact f4)
    have : (σ.T ++ [Tok.len xs.length]).set σ.T.length (.len (n + ys.length)) = T' := by rw [← hTe]; simp
    rw [← this]
    exact f3⟩ kk

omit [Lay P] in
/-- Ahead of a piece of code a slice without room is taken for the walk's own. -/
theorem HCode.adopt {N : Nat} {D : List Deferred} {c : Code} (tm : Nat) (agg : Bool) (z : Nat) {xs : List AV} {t : Tk} {k n : Nat} {T' : List Tok} (hx : lk? s tm = some (.slice xs t)) (ht : t.fresh = true) (hf : fitsAll agg z xs = true) (hk : smallLen σ.T = some k) (hn : xs.length = n)
    (hT' : snocK σ.T (.len n) some = some T') (h : HCode P N D c K ((tm, .slice xs (.own k z)) :: s) ⟨σ.B, T'⟩) : HCode P N D c K s σ := fun g w a hi hs ha hd => by
  have h1 := hs tm
  rw [lk_of hx] at h1
  obtain ⟨g1, e1, e2, e3⟩ := adopt_sem ht hf hi h1
  have hkl : σ.T.length = k := smallLen_spec hk
  have hTe : σ.T ++ [Tok.len n] = T' := Option.some.inj (snocK_spec _ _ _ _ hT')
  rw [hn, hTe] at e2
  rw [hkl] at e3
  refine wp_mono (h g1 w a e2 (fun u => ?_) ha hd) fun _ _ _ hp => hp.trans e1
  unfold lk
  cases e : Nat.beq tm u with
  | true => have := Nat.eq_of_beq_eq_true e; subst this; exact e3
  | false => exact Rep.mono e1.le _ _ (hs u)
end rules
end Go.Av
