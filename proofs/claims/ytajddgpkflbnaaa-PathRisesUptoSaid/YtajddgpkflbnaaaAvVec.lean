/-
  Slices that are written: a token tells what such a slice holds.
-/
import Derived.Test.YtajddgpkflbnaaaAvFun
set_option linter.unusedVariables false
namespace Go.Av
open Go
set_option linter.unusedSectionVars false
variable [Globals]

section
variable {g : Gh} {σ : St} {w : World}

/-- A token's record is written anew, with the world: what is the walk's own then lies in what was its own, or in new blocks. -/
theorem retk (hi : Inv g σ w) {w' : World} {k : Nat} {r' : Rec} {t' : Tok} {J : Nat → Nat → Prop} {T' : List Tok}
    (hT : (k < σ.T.length ∧ T' = σ.T.set k t') ∨ (k = σ.T.length ∧ T' = σ.T ++ [t']))
    (hsize : w.heap.size ≤ w'.heap.size) (hos : w'.os = w.os) (htape : w'.tape = w.tape) (hout : w'.output = w.output)
    (hblk : ∀ b, b < w.heap.size → (∀ r, g.tk[k]? = some r → ∀ o, ¬ r.zone b o) → w'.heap[b]? = w.heap[b]?)
    (hcell : ∀ b o, b < w.heap.size → (∀ r, g.tk[k]? = some r → ¬ r.zone b o) → w'.cell? ⟨b, o, none⟩ = w.cell? ⟨b, o, none⟩)
    (hfroz : ∀ b o, b < w.heap.size → w'.frozen? ⟨b, o, none⟩ = w.frozen? ⟨b, o, none⟩)
    (hJ : ∀ b o, J b o → ¬ r'.zone b o ∧ b < w'.heap.size ∧ (w.heap.size ≤ b ∨ ∃ r, g.tk[k]? = some r ∧ r.zone b o))
    (hz : ∀ b o, r'.zone b o → (∃ v, w'.cell? ⟨b, o, none⟩ = some v) ∧ w'.frozen? ⟨b, o, none⟩ = false ∧ (w.heap.size ≤ b ∨ ∃ r, g.tk[k]? = some r ∧ r.zone b o))
    (hver : ∀ r, g.tk[k]? = some r → r' = r ∨ (r.n < r'.n ∧ r'.sz = r.sz))
    (htok : ∀ g', Le g w g' w' → TokOk g' w' r' t') :
    ∃ g', Ext g w g' w' ∧ Inv g' ⟨σ.B, T'⟩ w' ∧ g'.tk[k]? = some r' ∧ (∀ b o, J b o → g'.im b o) := by
  let im' : Nat → Nat → Prop := fun b o => g.im b o ∨ J b o
  let tk' : List Rec := if k < g.tk.length then g.tk.set k r' else g.tk ++ [r']
  have hlT := hi.lenT
  have hre : Reown g w k r' ⟨g.bx, tk', im'⟩ w' := by
    refine ⟨rfl, ?_⟩
    by_cases e : k < g.tk.length
    · exact .inl ⟨e, if_pos e⟩
    · refine .inr ⟨?_, if_neg e⟩
      rcases hT with ⟨h, _⟩ | ⟨h, _⟩ <;> omega
  have himz : ∀ b o, g.im b o → ∀ r, g.tk[k]? = some r → ¬ r.zone b o := fun b o h r hr ho => (hi.tkz k r hr b o ho).1 h
  have hle : Le g w ⟨g.bx, tk', im'⟩ w' := by
    refine ⟨fun b o h => ⟨.inl h, hcell b o (hi.imlt b o h) (himz b o h)⟩, fun _ _ h => h, fun j r hj => ?_⟩
    by_cases e : j = k
    · subst e
      exact ⟨r', hre.get, hver r hj⟩
    · exact ⟨r, (hre.other e).trans hj, .inl rfl⟩
  refine ⟨⟨g.bx, tk', im'⟩, ?_, ?_, hre.get, fun b o h => .inr h⟩
  · refine ⟨hle, hsize, hos, htape, hout, fun b hb hn hzz => hblk b hb fun r hr o => hzz k r hr o, fun b o hb hn hzz => ⟨hcell b o hb fun r hr => hzz k r hr, hfroz b o hb⟩, fun b o h => ?_, fun b hb => .inl hb, fun j r hj b o ho => ?_⟩
    · rcases h with h | h
      · exact .inl h
      · rcases (hJ b o h).2.2 with h | ⟨r, hr, hzr⟩
        · exact .inr (.inl h)
        · exact .inr (.inr ⟨k, r, hr, hzr⟩)
    · by_cases e : j = k
      · subst e
        have : r = r' := Option.some.inj (hj.symm.trans hre.get)
        subst this
        exact (hz b o ho).2.2
      · exact .inr ⟨r, (hre.other e).symm.trans hj, ho⟩
  · refine ⟨hi.lenB, ?_, fun i b ob h1 h2 => (hi.ob i b ob h1 h2).mono hle (hblk b (hi.bx_lt (List.mem_of_getElem? h1)) fun r hr o ho => (hi.tkz k r hr b o ho).2.1 (List.mem_of_getElem? h1)), hi.nodup, fun b hb o h => ?_, fun j t r hj ht => ?_, fun j r hj b o ho => ?_, fun j j' r r2 hne hj hj' b o ho ho' => ?_, fun b o h => ?_, hi.gl.le hle⟩
    · show tk'.length = T'.length
      rcases hT with ⟨h1, rfl⟩ | ⟨h1, rfl⟩
      · rw [show tk' = g.tk.set k r' from if_pos (by omega)]; simp [hlT]
      · rw [show tk' = g.tk ++ [r'] from if_neg (by omega)]; simp [hlT]
    · rcases h with h | h
      · exact hi.noim b hb o h
      · rcases (hJ b o h).2.2 with h | ⟨r, hr, hzr⟩
        · have := hi.bx_lt hb; omega
        · exact (hi.tkz k r hr b o hzr).2.1 hb
    · by_cases e : j = k
      · subst e
        have : r = r' := Option.some.inj (hj.symm.trans hre.get)
        subst this
        have : t = t' := by
          rcases hT with ⟨h1, rfl⟩ | ⟨h1, rfl⟩
          · simp only [List.getElem?_set_self h1, Option.some.injEq] at ht; exact ht.symm
          · rw [h1] at ht; simp at ht; exact ht.symm
        subst this
        exact htok _ hle
      · have hj0 : g.tk[j]? = some r := (hre.other e).symm.trans hj
        have hjl := (List.getElem?_eq_some_iff.1 hj0).1
        refine (hi.tok j t r hj0 ?_).mono hle fun b o ho => hcell b o (hi.z_lt hj0 ho) fun r2 hr2 => hi.tkd j k r r2 e hj0 hr2 b o ho
        rcases hT with ⟨h1, rfl⟩ | ⟨h1, rfl⟩
        · simpa [Ne.symm e] using ht
        · have hjT : j < σ.T.length := by omega
          simpa [List.getElem?_append_left hjT] using ht
    · by_cases e : j = k
      · subst e
        have : r = r' := Option.some.inj (hj.symm.trans hre.get)
        subst this
        obtain ⟨h1, h2, h3⟩ := hz b o ho
        refine ⟨fun h => ?_, fun hb => ?_, h1, h2⟩
        · rcases h with h | h
          · rcases h3 with h3 | ⟨r0, h3, h4⟩
            · have := hi.imlt b o h; omega
            · exact (hi.tkz j r0 h3 b o h4).1 h
          · exact (hJ b o h).1 ho
        · rcases h3 with h3 | ⟨r0, h3, h4⟩
          · have := hi.bx_lt hb; omega
          · exact (hi.tkz j r0 h3 b o h4).2.1 hb
      · have hj0 : g.tk[j]? = some r := (hre.other e).symm.trans hj
        obtain ⟨h1, h2, h3, h4⟩ := hi.tkz j r hj0 b o ho
        have hb := hi.z_lt hj0 ho
        have hc := hcell b o hb fun r2 hr2 => hi.tkd j k r r2 e hj0 hr2 b o ho
        refine ⟨fun h => ?_, h2, by rw [hc]; exact h3, (hfroz b o hb).trans h4⟩
        rcases h with h | h
        · exact h1 h
        · rcases (hJ b o h).2.2 with h | ⟨r2, hr2, hzr⟩
          · omega
          · exact hi.tkd j k r r2 e hj0 hr2 b o ho hzr
    · by_cases e : j = k
      · subst e
        have : r = r' := Option.some.inj (hj.symm.trans hre.get)
        subst this
        have hj0 : g.tk[j']? = some r2 := (hre.other (Ne.symm hne)).symm.trans hj'
        rcases (hz b o ho).2.2 with h | ⟨r0, h3, h4⟩
        · have := hi.z_lt hj0 ho'; omega
        · exact hi.tkd j j' r0 r2 hne h3 hj0 b o h4 ho'
      · have hj0 : g.tk[j]? = some r := (hre.other e).symm.trans hj
        by_cases e' : j' = k
        · subst e'
          have : r2 = r' := Option.some.inj (hj'.symm.trans hre.get)
          subst this
          rcases (hz b o ho').2.2 with h | ⟨r0, h3, h4⟩
          · have := hi.z_lt hj0 ho; omega
          · exact hi.tkd j j' r r0 hne hj0 h3 b o ho h4
        · exact hi.tkd j j' r r2 hne hj0 ((hre.other e').symm.trans hj') b o ho ho'
    · rcases h with h | h
      · exact Nat.lt_of_lt_of_le (hi.imlt b o h) hsize
      · exact (hJ b o h).2.1

theorem tk_of (hi : Inv g σ w) {k : Nat} {t : Tok} (h : σ.T[k]? = some t) : ∃ r, g.tk[k]? = some r := by
  have : k < g.tk.length := by rw [hi.lenT]; exact (List.getElem?_eq_some_iff.1 h).1
  exact ⟨_, List.getElem?_eq_getElem this⟩

/-- A slice that is empty, and without room, is taken for one that may be written. -/
theorem vadopt_sem (hI : Inv g σ w) {t : Tk} {z : Nat} (ht : t.fresh = true) {u : Value} (h : Rep g w (.slice [] t) u) :
    ∃ g', Ext g w g' w ∧ Inv g' ⟨σ.B, σ.T ++ [.vec []]⟩ w ∧ Rep g' w (.vec σ.T.length z 0 0 0) u := by
  obtain ⟨a0, cap, sz, Us, rfl, c1, c2, c3, hl, c6, c7⟩ := h
  have hU : Us = [] := hl
  subst hU
  have hcap : cap = 0 := by
    cases t with
    | full => exact c3.symm
    | nil => exact c3.2
    | no => cases ht
    | nn => cases ht
    | own k z => cases ht
  subst hcap
  have hk : g.tk[σ.T.length]? = none := by rw [← hI.lenT]; simp
  obtain ⟨g', e1, e2, e3, _⟩ := retk (r' := ⟨none, 0, 0, z, 0⟩) (t' := .vec []) (J := fun _ _ => False) hI (w' := w) (.inr ⟨rfl, rfl⟩) (Nat.le_refl _) rfl rfl rfl (fun _ _ _ => rfl) (fun _ _ _ _ => rfl) (fun _ _ _ => rfl) (fun _ _ h => h.elim)
    (fun b o ⟨p, hp, _⟩ => by cases hp) (fun r hr => by rw [hk] at hr; cases hr) (fun g' _ => ⟨rfl, rfl, Nat.le_refl _, [], rfl, fun _ => rfl, by simp, fun p hp => by cases hp⟩)
  exact ⟨g', e1, e2, a0, 0, rfl, Nat.le_refl _, Nat.le_refl _, Nat.le_refl _, by simp [maxLen], (fun h => by omega), _, e3, rfl, Nat.le_refl _, fun _ => ⟨rfl, rfl, fun h => by omega⟩⟩

/-- What a slice that may be written is, in memory. -/
structure VecAt (g : Gh) (w : World) (k z : Nat) (xs : List AV) (r : Rec) (Vs : List Value) : Prop where
  hr : g.tk[k]? = some r
  sz : r.sz = z
  n : r.n = xs.length
  lo : r.lo = 0
  cap : xs.length ≤ r.cap
  rep : RepL g w xs Vs
  nil0 : r.base = none → Vs = []
  size : ∀ V ∈ Vs, V.cells.size = z
  mem : ∀ p : Addr, r.base = some p → (p.spot = none ∨ r.cap = 0) ∧ InCells w p.block z p.off Vs

theorem vec_at (hI : Inv g σ w) {k z n lo hi : Nat} {xs : List AV} {u : Value} (h : Rep g w (.vec k z n lo hi) u) (hT : σ.T[k]? = some (.vec xs)) (hn : xs.length = n) : ∃ r Vs, VecAt g w k z xs r Vs := by
  obtain ⟨a, cap, rfl, h1, h2, h3, h4, h5, r, hr, hz, hle, h6⟩ := h
  obtain ⟨t1, t2, t3, Vs, t4, t5, t6, t7⟩ := hI.tok k _ r hr hT
  subst hz
  exact ⟨r, Vs, hr, rfl, t1, t2, by omega, t4, t5, t6, t7⟩

theorem VecAt.len {k z : Nat} {xs : List AV} {r : Rec} {Vs : List Value} (h : VecAt g w k z xs r Vs) : Vs.length = xs.length := h.rep.length

/-- Each cell of the slice lies in what is the walk's own. -/
theorem VecAt.zone {k z : Nat} {xs : List AV} {r : Rec} {Vs : List Value} (h : VecAt g w k z xs r Vs) {p : Addr} (hp : r.base = some p) {o : Nat} (ho : o < r.cap * z) : r.zone p.block (p.off + o) :=
  ⟨p, hp, rfl, by rw [h.lo]; omega, by rw [h.sz]; omega⟩

/-- Cells of such a slice are written: elements Us stand there then. -/
theorem vec_write (hI : Inv g σ w) {k z : Nat} {xs ys : List AV} {r : Rec} {Vs Us : List Value} (h : VecAt g w k z xs r Vs) (hT : σ.T[k]? = some (.vec xs)) {p : Addr} (hp : r.base = some p) (hps : p.spot = none) {w' : World} {at_ : Nat} {cs : List Value}
    (hst : Stored w w' p.block (p.off + at_) cs) (hat : at_ + cs.length ≤ r.cap * z) (hcs : 0 < cs.length) (hU : RepL g w ys Us) (hUs : ∀ V ∈ Us, V.cells.size = z) (hlen : xs.length ≤ ys.length) (hver : xs.length = ys.length ∨ xs.length < ys.length) (hcap : ys.length ≤ r.cap)
    (hmem : InCells w' p.block z p.off Us) :
    ∃ g', Ext g w g' w' ∧ Inv g' ⟨σ.B, σ.T.set k (.vec ys)⟩ w' ∧ g'.tk[k]? = some { r with n := ys.length } := by
  have hkl : k < σ.T.length := (List.getElem?_eq_some_iff.1 hT).1
  have hzn : ∀ j, j < cs.length → r.zone p.block (p.off + at_ + j) := fun j hj => by rw [Nat.add_assoc]; exact h.zone hp (by omega)
  have hcell : ∀ b o, (∀ r0, g.tk[k]? = some r0 → ¬ r0.zone b o) → w'.cell? ⟨b, o, none⟩ = w.cell? ⟨b, o, none⟩ := by
    intro b o hnz
    by_cases e : b = p.block
    · subst e
      refine hst.there o ?_
      refine Classical.byContradiction fun hc => hnz r h.hr ?_
      have := hzn (o - (p.off + at_)) (by omega)
      rwa [show p.off + at_ + (o - (p.off + at_)) = o by omega] at this
    · exact (cell_old (hst.block b e)).1
  have hfroz : ∀ b o, w'.frozen? ⟨b, o, none⟩ = w.frozen? ⟨b, o, none⟩ := by
    intro b o
    by_cases e : b = p.block
    · subst e; exact hst.frozen o
    · exact (cell_old (hst.block b e)).2
  obtain ⟨g', e1, e2, e3, _⟩ := retk (r' := { r with n := ys.length }) (t' := .vec ys) (J := fun _ _ => False) hI (w' := w') (.inl ⟨hkl, rfl⟩) (by rw [hst.size]; exact Nat.le_refl _) hst.os hst.tape hst.output
    (fun b hb hnz => by
      by_cases e : b = p.block
      · subst e
        exact absurd (hzn 0 hcs) (hnz r h.hr _)
      · exact hst.block b e)
    (fun b o _ hnz => hcell b o hnz) (fun b o _ => hfroz b o) (fun _ _ h => h.elim)
    (fun b o ho => by
      have ho' : r.zone b o := ho
      obtain ⟨_, _, ⟨v, hv⟩, hf⟩ := hI.tkz k r h.hr b o ho'
      refine ⟨?_, (hfroz b o).trans hf, .inr ⟨r, h.hr, ho'⟩⟩
      by_cases e : b = p.block
      · subst e
        by_cases hin : p.off + at_ ≤ o ∧ o < p.off + at_ + cs.length
        · have hj : o - (p.off + at_) < cs.length := by omega
          have := hst.here (o - (p.off + at_)) _ (List.getElem?_eq_getElem hj)
          rw [show p.off + at_ + (o - (p.off + at_)) = o by omega] at this
          exact ⟨_, this⟩
        · exact ⟨v, (hst.there o (by omega)).trans hv⟩
      · exact ⟨v, (cell_old (hst.block b e)).1.trans hv⟩)
    (fun r0 hr0 => by
      have : r0 = r := Option.some.inj (hr0.symm.trans h.hr)
      subst this
      rcases hver with e | e
      · left
        rw [← e, ← h.n]
      · right
        exact ⟨by rw [h.n]; exact e, rfl⟩)
    (fun g' hle => ⟨rfl, h.lo, hcap, Us, RepL.mono hle _ _ hU, (fun e => by rw [hp] at e; cases e), by rw [h.sz]; exact hUs, fun q hq => by
      have : q = p := Option.some.inj (hq.symm.trans hp)
      subst this
      refine ⟨.inl hps, ?_⟩
      rw [h.sz]
      exact hmem⟩)
  exact ⟨g', e1, e2, e3⟩

/-- Such a slice is never written any more from here on. -/
theorem freeze_sem (hI : Inv g σ w) {k z n lo hi : Nat} {xs : List AV} {u : Value} (h : Rep g w (.vec k z n lo hi) u) (hT : σ.T[k]? = some (.vec xs)) (hn : xs.length = n) :
    ∃ g', Ext g w g' w ∧ Inv g' ⟨σ.B, σ.T.set k (.len (n + 1))⟩ w ∧ Rep g' w (.slice ((xs.take hi).drop lo) .no) u := by
  obtain ⟨r, Vs, hv⟩ := vec_at hI h hT hn
  have hkl : k < σ.T.length := (List.getElem?_eq_some_iff.1 hT).1
  obtain ⟨a, cap, rfl, h1, h2, h3, h4, h5, r0, hr0, hz, hle, h6⟩ := h
  have : r0 = r := Option.some.inj (hr0.symm.trans hv.hr)
  subst this
  obtain ⟨l1, l2, l3⟩ := h6 (by rw [hv.n, hn])
  have hvl : Vs.length = n := by rw [hv.len, hn]
  obtain ⟨g', e1, e2, e3, e4⟩ := retk (r' := ⟨none, n + 1, 0, z, n + 1⟩) (t' := .len (n + 1)) (J := fun b o => r0.zone b o) hI (w' := w) (.inl ⟨hkl, rfl⟩) (Nat.le_refl _) rfl rfl rfl (fun _ _ _ => rfl) (fun _ _ _ _ => rfl) (fun _ _ _ => rfl)
    (fun b o hzo => ⟨(fun ⟨p, hp, _⟩ => by cases hp), hI.z_lt hv.hr hzo, .inr ⟨r0, hv.hr, hzo⟩⟩)
    (fun b o ⟨p, hp, _⟩ => by cases hp) (fun r1 hr1 => by
      have : r1 = r0 := Option.some.inj (hr1.symm.trans hv.hr)
      subst this
      exact .inr ⟨by rw [hv.n, hn]; show n < n + 1; omega, by rw [hv.sz]⟩) (fun g' _ => ⟨rfl, rfl⟩)
  refine ⟨g', e1, e2, a, cap - lo, z, (Vs.take hi).drop lo, ?_, ?_, by omega, trivial, ((RepL.mono e1.le _ _ hv.rep).take hi).drop lo, fun e => ?_, fun q hq => ?_⟩
  · have : ((Vs.take hi).drop lo).length = hi - lo := by simp; omega
    rw [this]
  · simp; omega
  · have hcl : ¬ lo < cap := fun hc => by obtain ⟨b, o, hh⟩ := h5 hc; rw [e] at hh; cases hh
    have hnil : (Vs.take hi).drop lo = [] := by apply List.eq_nil_of_length_eq_zero; simp; omega
    exact ⟨hnil, by omega⟩
  · by_cases hlc : lo < cap
    · obtain ⟨p, hp, hps, hpa⟩ := l3 hlc
      rw [hq] at hpa
      cases hpa
      refine ⟨.inl rfl, fun i V hi' => ?_⟩
      rw [List.getElem?_drop] at hi'
      have hV : Vs[lo + i]? = some V := by
        rw [List.getElem?_take] at hi'
        split at hi'
        · exact hi'
        · cases hi'
      obtain ⟨m1, m2⟩ := (hv.mem p hp).2 (lo + i) V hV
      refine ⟨m1, fun j x hj => ?_⟩
      obtain ⟨_, m3, m4⟩ := m2 j x hj
      have hadd : p.off + (lo + i) * z + j = p.off + lo * z + i * z + j := by rw [Nat.add_mul]; omega
      rw [hadd] at m3
      refine ⟨e4 _ _ ?_, m3, m4⟩
      have hj' : j < z := by have := (Array.getElem?_eq_some_iff.1 hj).1; omega
      have hil : lo + i < n := by have := (List.getElem?_eq_some_iff.1 hV).1; omega
      have hb : (lo + i + 1) * z ≤ r0.cap * z := Nat.mul_le_mul_right _ (by omega)
      rw [Nat.succ_mul] at hb
      have := hv.zone hp (o := (lo + i) * z + j) (by omega)
      rwa [show p.off + ((lo + i) * z + j) = p.off + lo * z + i * z + j by omega] at this
    · have hnil : (Vs.take hi).drop lo = [] := by apply List.eq_nil_of_length_eq_zero; simp; omega
      rw [hnil]
      exact ⟨.inr rfl, fun i V hi => by simp at hi⟩
end
end Go.Av
