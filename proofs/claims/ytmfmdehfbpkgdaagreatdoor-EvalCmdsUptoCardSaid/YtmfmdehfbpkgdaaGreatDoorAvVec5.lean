/-
  Slices that are written: a token tells what such a slice holds.
-/
import Derived.Test.YtmfmdehfbpkgdaaGreatDoorAvFun
set_option linter.unusedVariables false
namespace Go.Av
open Go
set_option linter.unusedSectionVars false
variable [Globals]
section
variable {g : Gh} {σ : St} {w : World}
theorem retk (hi : Inv g σ w) {w' : World} {k : Nat} {r' : Rec} {t' : Tok} {J : Nat → Nat → Prop} {T' : List Tok}
    (hT : (k < σ.T.length ∧ T' = σ.T.set k t') ∨ (k = σ.T.length ∧ T' = σ.T ++ [t']))
    (hsize : w.heap.size ≤ w'.heap.size) (hos : w'.os = w.os) (htape : w'.tape = w.tape) (hout : w'.output = w.output)
    (hblk : ∀ b, b < w.heap.size → (∀ r, g.tk[k]? = some r → ∀ o, ¬ r.zone b o) → w'.heap[b]? = w.heap[b]?)
    (hcell : ∀ b o, b < w.heap.size → (∀ r, g.tk[k]? = some r → ¬ r.zone b o) → w'.cell? ⟨b, o, none⟩ = w.cell? ⟨b, o, none⟩)
    (hfroz : ∀ b o, b < w.heap.size → w'.frozen? ⟨b, o, none⟩ = w.frozen? ⟨b, o, none⟩)
    (hJ : ∀ b o, J b o → ¬ r'.zone b o ∧ b < w'.heap.size ∧ (w.heap.size ≤ b ∨ ∃ r, g.tk[k]? = some r ∧ r.zone b o))
    (hz : ∀ b o, r'.zone b o → (∃ v, w'.cell? ⟨b, o, none⟩ = some v) ∧ w'.frozen? ⟨b, o, none⟩ = false ∧ (w.heap.size ≤ b ∨ ∃ r, g.tk[k]? = some r ∧ r.zone b o))
    (hver : ∀ r, g.tk[k]? = some r → r' = r ∨ (r.n < r'.n ∧ r'.sz = r.sz))
    (htok : ∀ g', Le g w g' w' → TokOk g' w' r' t') :
    ∃ g', Ext g w g' w' ∧ Inv g' ⟨σ.B, T'⟩ w' ∧ g'.tk[k]? = some r' ∧ (∀ b o, J b o → g'.im b o) := by
  let im' : Nat → Nat → Prop := fun b o => g.im b o ∨ J b o
  let tk' : List Rec := if k < g.tk.length then g.tk.set k r' else g.tk ++ [r']
  have hlT := hi.lenT
  have hre : Reown g w k r' ⟨g.bx, tk', im'⟩ w' := by
    refine ⟨rfl, ?_⟩
    by_cases e : k < g.tk.length
    · exact .inl ⟨e, if_pos e⟩
    · refine .inr ⟨?_, if_neg e⟩
      rcases hT with ⟨h, _⟩ | ⟨h, _⟩ <;> omega
  have himz : ∀ b o, g.im b o → ∀ r, g.tk[k]? = some r → ¬ r.zone b o := fun b o h r hr ho => (hi.tkz k r hr b o ho).1 h
  have hle : Le g w ⟨g.bx, tk', im'⟩ w' := by
    refine ⟨fun b o h => ⟨.inl h, hcell b o (hi.imlt b o h) (himz b o h)⟩, fun _ _ h => h, fun j r hj => ?_⟩
    by_cases e : j = k
    · subst e
      exact ⟨r', hre.get, hver r hj⟩
    · exact ⟨r, (hre.other e).trans hj, .inl rfl⟩
  refine ⟨⟨g.bx, tk', im'⟩, ?_, ?_, hre.get, fun b o h => .inr h⟩
  · refine ⟨hle, hsize, hos, htape, hout, fun b hb hn hzz => hblk b hb fun r hr o => hzz k r hr o, fun b o hb hn hzz => ⟨hcell b o hb fun r hr => hzz k r hr, hfroz b o hb⟩, fun b o h => ?_, fun b hb => .inl hb, fun j r hj b o ho => ?_⟩
    · rcases h with h | h
      · exact .inl h
      · rcases (hJ b o h).2.2 with h | ⟨r, hr, hzr⟩
        · exact .inr (.inl h)
        · exact .inr (.inr ⟨k, r, hr, hzr⟩)
    · by_cases e : j = k
      · subst e
        have : r = r' := Option.some.inj (hj.symm.trans hre.get)
        subst this
        exact (hz b o ho).2.2
      · exact .inr ⟨r, (hre.other e).symm.trans hj, ho⟩
  · refine ⟨hi.lenB, ?_, fun i b ob h1 h2 => (hi.ob i b ob h1 h2).mono hle (hblk b (hi.bx_lt (List.mem_of_getElem? h1)) fun r hr o ho => (hi.tkz k r hr b o ho).2.1 (List.mem_of_getElem? h1)), hi.nodup, fun b hb o h => ?_, fun j t r hj ht => ?_, fun j r hj b o ho => ?_, fun j j' r r2 hne hj hj' b o ho ho' => ?_, fun b o h => ?_, hi.gl.le hle⟩
    · show tk'.length = T'.length
      rcases hT with ⟨h1, rfl⟩ | ⟨h1, rfl⟩
      · rw [show tk' = g.tk.set k r' from if_pos (by omega)]; simp [hlT]
      · rw [show tk' = g.tk ++ [r'] from if_neg (by omega)]; simp [hlT]
    · rcases h with h | h
      · exact hi.noim b hb o h
      · rcases (hJ b o h).2.2 with h | ⟨r, hr, hzr⟩
        · have := hi.bx_lt hb; omega
        · exact (hi.tkz k r hr b o hzr).2.1 hb
    · by_cases e : j = k
      · subst e
        have : r = r' := Option.some.inj (hj.symm.trans hre.get)
        subst this
        have : t = t' := by
          rcases hT with ⟨h1, rfl⟩ | ⟨h1, rfl⟩
          · simp only [List.getElem?_set_self h1, Option.some.injEq] at ht; exact ht.symm
          · rw [h1] at ht; simp at ht; exact ht.symm
        subst this
        exact htok _ hle
      · have hj0 : g.tk[j]? = some r := (hre.other e).symm.trans hj
        have hjl := (List.getElem?_eq_some_iff.1 hj0).1
        refine (hi.tok j t r hj0 ?_).mono hle fun b o ho => hcell b o (hi.z_lt hj0 ho) fun r2 hr2 => hi.tkd j k r r2 e hj0 hr2 b o ho
        rcases hT with ⟨h1, rfl⟩ | ⟨h1, rfl⟩
        · simpa [Ne.symm e] using ht
        · have hjT : j < σ.T.length := by omega
          simpa [List.getElem?_append_left hjT] using ht
    · by_cases e : j = k
      · subst e
        have : r = r' := Option.some.inj (hj.symm.trans hre.get)
        subst this
        obtain ⟨h1, h2, h3⟩ := hz b o ho
        refine ⟨fun h => ?_, fun hb => ?_, h1, h2⟩
        · rcases h with h | h
          · rcases h3 with h3 | ⟨r0, h3, h4⟩
            · have := hi.imlt b o h; omega
            · exact (hi.tkz j r0 h3 b o h4).1 h
          · exact (hJ b o h).1 ho
        · rcases h3 with h3 | ⟨r0, h3, h4⟩
          · have := hi.bx_lt hb; omega
          · exact (hi.tkz j r0 h3 b o h4).2.1 hb
      · have hj0 : g.tk[j]? = some r := (hre.other e).symm.trans hj
        obtain ⟨h1, h2, h3, h4⟩ := hi.tkz j r hj0 b o ho
        have hb := hi.z_lt hj0 ho
        have hc := hcell b o hb fun r2 hr2 => hi.tkd j k r r2 e hj0 hr2 b o ho
        refine ⟨fun h => ?_, h2, by rw [hc]; exact h3, (hfroz b o hb).trans h4⟩
        rcases h with h | h
        · exact h1 h
        · rcases (hJ b o h).2.2 with h | ⟨r2, hr2, hzr⟩
          · omega
          · exact hi.tkd j k r r2 e hj0 hr2 b o ho hzr
    · by_cases e : j = k
      · subst e
        have : r = r' := Option.some.inj (hj.symm.trans hre.get)
        subst this
        have hj0 : g.tk[j']? = some r2 := (hre.other (Ne.symm hne)).symm.trans hj'
        rcases (hz b o ho).2.2 with h | ⟨r0, h3, h4⟩
        · have := hi.z_lt hj0 ho'; omega
        · exact hi.tkd j j' r0 r2 hne h3 hj0 b o h4 ho'
      · have hj0 : g.tk[j]? = some r := (hre.other e).symm.trans hj
        by_cases e' : j' = k
        · subst e'
          have : r2 = r' := Option.some.inj (hj'.symm.trans hre.get)
          subst this
          rcases (hz b o ho').2.2 with h | ⟨r0, h3, h4⟩
          · have := hi.z_lt hj0 ho; omega
          · exact hi.tkd j j' r r0 hne hj0 h3 b o ho h4
        · exact hi.tkd j j' r r2 hne hj0 ((hre.other e').symm.trans hj') b o ho ho'
    · rcases h with h | h
      · exact Nat.lt_of_lt_of_le (hi.imlt b o h) hsize
      · exact (hJ b o h).2.1
theorem vadopt_sem (hI : Inv g σ w) {t : Tk} {z : Nat} (ht : t.fresh = true) {u : Value} (h : Rep g w (.slice [] t) u) :
    ∃ g', Ext g w g' w ∧ Inv g' ⟨σ.B, σ.T ++ [.vec []]⟩ w ∧ Rep g' w (.vec σ.T.length z 0 0 0) u := by
  obtain ⟨a0, cap, sz, Us, rfl, c1, c2, c3, hl, c6, c7⟩ := h
  have hU : Us = [] := hl
  subst hU
  have hcap : cap = 0 := by
    cases t with
    | full => exact c3.symm
    | nil => exact c3.2
    | no => cases ht
    | nn => cases ht
    | own k z => cases ht
  subst hcap
  have hk : g.tk[σ.T.length]? = none := by rw [← hI.lenT]; simp
  obtain ⟨g', e1, e2, e3, _⟩ := retk (r' := ⟨none, 0, 0, z, 0⟩) (t' := .vec []) (J := fun _ _ => False) hI (w' := w) (.inr ⟨rfl, rfl⟩) (Nat.le_refl _) rfl rfl rfl (fun _ _ _ => rfl) (fun _ _ _ _ => rfl) (fun _ _ _ => rfl) (fun _ _ h => h.elim)
    (fun b o ⟨p, hp, _⟩ => by cases hp) (fun r hr => by rw [hk] at hr; cases hr) (fun g' _ => ⟨rfl, rfl, Nat.le_refl _, [], rfl, fun _ => rfl, by simp, fun p hp => by cases hp⟩)
  exact ⟨g', e1, e2, a0, 0, rfl, Nat.le_refl _, Nat.le_refl _, Nat.le_refl _, by simp [maxLen], (fun h => by omega), _, e3, rfl, Nat.le_refl _, fun _ => ⟨rfl, rfl, fun h => by omega⟩⟩
structure VecAt (g : Gh) (w : World) (k z : Nat) (xs : List AV) (r : Rec) (Vs : List Value) : Prop where
  hr : g.tk[k]? = some r
  sz : r.sz = z
  n : r.n = xs.length
  lo : r.lo = 0
  cap : xs.length ≤ r.cap
  rep : RepL g w xs Vs
  nil0 : r.base = none → Vs = []
  size : ∀ V ∈ Vs, V.cells.size = z
  mem : ∀ p : Addr, r.base = some p → (p.spot = none ∨ r.cap = 0) ∧ InCells w p.block z p.off Vs
theorem vec_at (hI : Inv g σ w) {k z n lo hi : Nat} {xs : List AV} {u : Value} (h : Rep g w (.vec k z n lo hi) u) (hT : σ.T[k]? = some (.vec xs)) (hn : xs.length = n) : ∃ r Vs, VecAt g w k z xs r Vs := by
  obtain ⟨a, cap, rfl, h1, h2, h3, h4, h5, r, hr, hz, hle, h6⟩ := h
  obtain ⟨t1, t2, t3, Vs, t4, t5, t6, t7⟩ := hI.tok k _ r hr hT
  subst hz
  exact ⟨r, Vs, hr, rfl, t1, t2, by omega, t4, t5, t6, t7⟩
theorem VecAt.len {k z : Nat} {xs : List AV} {r : Rec} {Vs : List Value} (h : VecAt g w k z xs r Vs) : Vs.length = xs.length := h.rep.length
theorem VecAt.zone {k z : Nat} {xs : List AV} {r : Rec} {Vs : List Value} (h : VecAt g w k z xs r Vs) {p : Addr} (hp : r.base = some p) {o : Nat} (ho : o < r.cap * z) : r.zone p.block (p.off + o) :=
  ⟨p, hp, rfl, by rw [h.lo]; omega, by rw [h.sz]; omega⟩
theorem vec_write (hI : Inv g σ w) {k z : Nat} {xs ys : List AV} {r : Rec} {Vs Us : List Value} (h : VecAt g w k z xs r Vs) (hT : σ.T[k]? = some (.vec xs)) {p : Addr} (hp : r.base = some p) (hps : p.spot = none) {w' : World} {at_ : Nat} {cs : List Value}
    (hst : Stored w w' p.block (p.off + at_) cs) (hat : at_ + cs.length ≤ r.cap * z) (hcs : 0 < cs.length) (hU : RepL g w ys Us) (hUs : ∀ V ∈ Us, V.cells.size = z) (hlen : xs.length ≤ ys.length) (hver : xs.length = ys.length ∨ xs.length < ys.length) (hcap : ys.length ≤ r.cap)
    (hmem : InCells w' p.block z p.off Us) :
    ∃ g', Ext g w g' w' ∧ Inv g' ⟨σ.B, σ.T.set k (.vec ys)⟩ w' ∧ g'.tk[k]? = some { r with n := ys.length } := by
  have hkl : k < σ.T.length := (List.getElem?_eq_some_iff.1 hT).1
  have hzn : ∀ j, j < cs.length → r.zone p.block (p.off + at_ + j) := fun j hj => by rw [Nat.add_assoc]; exact h.zone hp (by omega)
  have hcell : ∀ b o, (∀ r0, g.tk[k]? = some r0 → ¬ r0.zone b o) → w'.cell? ⟨b, o, none⟩ = w.cell? ⟨b, o, none⟩ := by
    intro b o hnz
    by_cases e : b = p.block
    · subst e
      refine hst.there o ?_
      refine Classical.byContradiction fun hc => hnz r h.hr ?_
      have := hzn (o - (p.off + at_)) (by omega)
      rwa [show p.off + at_ + (o - (p.off + at_)) = o by omega] at this
    · exact (cell_old (hst.block b e)).1
  have hfroz : ∀ b o, w'.frozen? ⟨b, o, none⟩ = w.frozen? ⟨b, o, none⟩ := by
    intro b o
    by_cases e : b = p.block
    · subst e; exact hst.frozen o
    · exact (cell_old (hst.block b e)).2
  obtain ⟨g', e1, e2, e3, _⟩ := retk (r' := { r with n := ys.length }) (t' := .vec ys) (J := fun _ _ => False) hI (w' := w') (.inl ⟨hkl, rfl⟩) (by rw [hst.size]; exact Nat.le_refl _) hst.os hst.tape hst.output
    (fun b hb hnz => by
      by_cases e : b = p.block
      · subst e
        exact absurd (hzn 0 hcs) (hnz r h.hr _)
      · exact hst.block b e)
    (fun b o _ hnz => hcell b o hnz) (fun b o _ => hfroz b o) (fun _ _ h => h.elim)
    (fun b o ho => by
      have ho' : r.zone b o := ho
      obtain ⟨_, _, ⟨v, hv⟩, hf⟩ := hI.tkz k r h.hr b o ho'
      refine ⟨?_, (hfroz b o).trans hf, .inr ⟨r, h.hr, ho'⟩⟩
      by_cases e : b = p.block
      · subst e
        by_cases hin : p.off + at_ ≤ o ∧ o < p.off + at_ + cs.length
        · have hj : o - (p.off + at_) < cs.length := by omega
          have := hst.here (o - (p.off + at_)) _ (List.getElem?_eq_getElem hj)
          rw [show p.off + at_ + (o - (p.off + at_)) = o by omega] at this
          exact ⟨_, this⟩
        · exact ⟨v, (hst.there o (by omega)).trans hv⟩
      · exact ⟨v, (cell_old (hst.block b e)).1.trans hv⟩)
    (fun r0 hr0 => by
      have : r0 = r := Option.some.inj (hr0.symm.trans h.hr)
      subst this
      rcases hver with e | e
      · left
        rw [← e, ← h.n]
      · right
        exact ⟨by rw [h.n]; exact e, rfl⟩)
    (fun g' hle => ⟨rfl, h.lo, hcap, Us, RepL.mono hle _ _ hU, (fun e => by rw [hp] at e; cases e), by rw [h.sz]; exact hUs, fun q hq => by
      have : q = p := Option.some.inj (hq.symm.trans hp)
      subst this
      refine ⟨.inl hps, ?_⟩
      rw [h.sz]
      exact hmem⟩)
  exact ⟨g', e1, e2, e3⟩
theorem freeze_sem (hI : Inv g σ w) {k z n lo hi : Nat} {xs : List AV} {u : Value} (h : Rep g w (.vec k z n lo hi) u) (hT : σ.T[k]? = some (.vec xs)) (hn : xs.length = n) :
    ∃ g', Ext g w g' w ∧ Inv g' ⟨σ.B, σ.T.set k (.len (n + 1))⟩ w ∧ Rep g' w (.slice ((xs.take hi).drop lo) .no) u := by
  obtain ⟨r, Vs, hv⟩ := vec_at hI h hT hn
  have hkl : k < σ.T.length := (List.getElem?_eq_some_iff.1 hT).1
  obtain ⟨a, cap, rfl, h1, h2, h3, h4, h5, r0, hr0, hz, hle, h6⟩ := h
  have : r0 = r := Option.some.inj (hr0.symm.trans hv.hr)
  subst this
  obtain ⟨l1, l2, l3⟩ := h6 (by rw [hv.n, hn])
  have hvl : Vs.length = n := by rw [hv.len, hn]
  obtain ⟨g', e1, e2, e3, e4⟩ := retk (r' := ⟨none, n + 1, 0, z, n + 1⟩) (t' := .len (n + 1)) (J := fun b o => r0.zone b o) hI (w' := w) (.inl ⟨hkl, rfl⟩) (Nat.le_refl _) rfl rfl rfl (fun _ _ _ => rfl) (fun _ _ _ _ => rfl) (fun _ _ _ => rfl)
    (fun b o hzo => ⟨(fun ⟨p, hp, _⟩ => by cases hp), hI.z_lt hv.hr hzo, .inr ⟨r0, hv.hr, hzo⟩⟩)
    (fun b o ⟨p, hp, _⟩ => by cases hp) (fun r1 hr1 => by
      have : r1 = r0 := Option.some.inj (hr1.symm.trans hv.hr)
      subst this
      exact .inr ⟨by rw [hv.n, hn]; show n < n + 1; omega, by rw [hv.sz]⟩) (fun g' _ => ⟨rfl, rfl⟩)
  refine ⟨g', e1, e2, a, cap - lo, z, (Vs.take hi).drop lo, ?_, ?_, by omega, trivial, ((RepL.mono e1.le _ _ hv.rep).take hi).drop lo, fun e => ?_, fun q hq => ?_⟩
  · have : ((Vs.take hi).drop lo).length = hi - lo := by simp; omega
    rw [this]
  · simp; omega
  · have hcl : ¬ lo < cap := fun hc => by obtain ⟨b, o, hh⟩ := h5 hc; rw [e] at hh; cases hh
    have hnil : (Vs.take hi).drop lo = [] := by apply List.eq_nil_of_length_eq_zero; simp; omega
    exact ⟨hnil, by omega⟩
  · by_cases hlc : lo < cap
    · obtain ⟨p, hp, hps, hpa⟩ := l3 hlc
      rw [hq] at hpa
      cases hpa
      refine ⟨.inl rfl, fun i V hi' => ?_⟩
      rw [List.getElem?_drop] at hi'
      have hV : Vs[lo + i]? = some V := by
        rw [List.getElem?_take] at hi'
        split at hi'
        · exact hi'
        · cases hi'
      obtain ⟨m1, m2⟩ := (hv.mem p hp).2 (lo + i) V hV
      refine ⟨m1, fun j x hj => ?_⟩
      obtain ⟨_, m3, m4⟩ := m2 j x hj
      have hadd : p.off + (lo + i) * z + j = p.off + lo * z + i * z + j := by rw [Nat.add_mul]; omega
      rw [hadd] at m3
      refine ⟨e4 _ _ ?_, m3, m4⟩
      have hj' : j < z := by have := (Array.getElem?_eq_some_iff.1 hj).1; omega
      have hil : lo + i < n := by have := (List.getElem?_eq_some_iff.1 hV).1; omega
      have hb : (lo + i + 1) * z ≤ r0.cap * z := Nat.mul_le_mul_right _ (by omega)
      rw [Nat.succ_mul] at hb
      have := hv.zone hp (o := (lo + i) * z + j) (by omega)
      rwa [show p.off + ((lo + i) * z + j) = p.off + lo * z + i * z + j by omega] at this
    · have hnil : (Vs.take hi).drop lo = [] := by apply List.eq_nil_of_length_eq_zero; simp; omega
      rw [hnil]
      exact ⟨.inr rfl, fun i V hi => by simp at hi⟩
end
end Go.Av
set_option linter.unusedVariables false
namespace Go.Av
open Go
set_option linter.unusedSectionVars false
variable [Globals]
section rules
variable {P : Program} [Lay P] {all : Array Oper} {draw : Bool} {K : AX → Slots → St → Prop} {rest : List Oper} {acc : List Tag} {s : Slots} {σ : St}
variable {d : Tmp} {ty : TypeId} {pos : String} {af : Array Edge}
theorem set_self {α : Type} {l : List α} {k : Nat} {x : α} (h : l[k]? = some x) : l.set k x = l := by
  apply List.ext_getElem?
  intro i
  by_cases e : i = k
  · subst e; rw [List.getElem?_set_self (List.getElem?_eq_some_iff.1 h).1, h]
  · rw [List.getElem?_set_ne (Ne.symm e)]
theorem vappend_sem {T ty : TypeId} {xs ys : List AV} {k z n : Nat} {ti te : TI} (hT : ty? P T = some ti) (hk : ti.kind = .slice) (hE : ty? P ti.elem = some te) (hzz : te.size = z) (hz0 : 0 < z)
    {g : Gh} {w : World} (hI : Inv g σ w) {ux uy : Value} (h1 : Rep g w (.vec k z n 0 n) ux) {Ys : List Value} (hsrc : Src g w te.size ys uy Ys) (hTk : σ.T[k]? = some (.vec xs)) (hn : xs.length = n)
    (hb : (n + ys.length) * te.bytes ≤ 140737488355328) (hb' : n + ys.length ≤ 4611686018427387904) :
    ∃ v w' g', (Builtin.append_ #[T, T] ty #[ux, uy]).run P w = .ok v w' ∧ Ext g w g' w' ∧ Inv g' ⟨σ.B, σ.T.set k (.vec (xs ++ ys))⟩ w' ∧ Rep g' w' (.vec k z (n + ys.length) 0 (n + ys.length)) v := by
  have hyl : Ys.length = ys.length := hsrc.rep.length
  have kl : k < σ.T.length := (List.getElem?_eq_some_iff.1 hTk).1
  obtain ⟨r, Us, hv⟩ := vec_at hI h1 hTk hn
  have h1' := h1
  obtain ⟨a0, cap, rfl, _, _, c3, c4, c5, r0, hr0, hz, hle, h6⟩ := h1
  have : r0 = r := Option.some.inj (hr0.symm.trans hv.hr)
  subst this
  obtain ⟨l1, l2, l3⟩ := h6 (by rw [hv.n, hn])
  simp only [Nat.sub_zero, Nat.zero_mul, Nat.add_zero] at *
  have hul : Us.length = n := by rw [← hn]; exact hv.len
  obtain ⟨info, dd, z0, t1, t2, t3, t4, _⟩ := (ty_ok hT).ex
  have hd : ∃ e, dd = .slice e := by rw [hk] at t3; cases dd <;> first | exact ⟨_, rfl⟩ | cases t3
  obtain ⟨el, rfl⟩ := hd
  have hel : el = ti.elem := t4
  subst hel
  obtain ⟨ie, de, ze, u1, u2, u3, u4, u5, u6, u7, u8, u9, u10, u11, u12, u13⟩ := (ty_ok hE).ex
  have hus := hv.size
  have hys : ∀ V ∈ Ys, V.cells.size = z := fun V hV => by rw [← hzz]; exact hsrc.size V hV
  have hall : ∀ V ∈ Us ++ Ys, V.cells.size = z := fun V hV => (List.mem_append.1 hV).elim (hus V) (hys V)
  have hlen : (xs ++ ys).length = n + ys.length := by rw [List.length_append, hn]
  by_cases hm : Ys.length = 0
  · have hYs := List.eq_nil_of_length_eq_zero hm
    subst hYs
    have hys0 : ys = [] := List.eq_nil_of_length_eq_zero (by rw [← hyl]; rfl)
    subst hys0
    refine ⟨.slice a0 n cap, w, g, ?_, Ext.refl g w, ?_, h1'⟩
    · rcases hsrc.form with ⟨b, c, rfl, _⟩ | ⟨rfl, _⟩
      · have hfc : (Builtin.firstCells ie.size 0 (.slice (some b) 0 c)).run P w = .ok #[] w := by simp [Builtin.firstCells, loadCells, loadCellsFrom]
        cases a0 <;> simp [Builtin.append_, run_underlying t2, sizeOf, typeInfo, u1, Builtin.lenOf, c3, hfc, storeCells]
      · cases a0 <;> simp [Builtin.append_, run_underlying t2, sizeOf, typeInfo, u1, Builtin.lenOf, c3, Builtin.firstCells, storeCells]
    · rw [List.append_nil, set_self hTk]; exact hI
  · have hm0 : 0 < Ys.length := by omega
    rcases hsrc.form with ⟨sb, sc, rfl, hscell⟩ | ⟨_, e⟩
    case inr => rw [e] at hm0; simp at hm0
    have hfl : (flat Ys).length = Ys.length * ie.size := by rw [u6, hzz]; exact flat_length hys
    have hful : (flat Us).length = n * ie.size := by rw [u6, hzz, flat_length hus, hul]
    have hmax : n + Ys.length ≤ maxLen := by unfold maxLen; omega
    have hfit : ∀ old, old < n + Ys.length → Builtin.nextslicecap (n + Ys.length) old * ie.bytes ≤ 281474976710656 := fun old h => growslice_fits h (by rw [hyl, u7]; exact hb)
    have hzc : ze.cells.size = z := u10.trans hzz
    have grow : ∀ (old : Nat) (hold1 : ∀ v ∈ flat Us, v.oneCell' = true), old < n + Ys.length → ∃ g',
        Ext g w g' (w.drew.alloc (.cells ((flat Us).toArray ++ (flat Ys).toArray ++ Builtin.zeroCells ze.cells (grownCap w (n + Ys.length) old ti.elem - (n + Ys.length))) ti.elem)) ∧
        Inv g' ⟨σ.B, σ.T.set k (.vec (xs ++ ys))⟩ (w.drew.alloc (.cells ((flat Us).toArray ++ (flat Ys).toArray ++ Builtin.zeroCells ze.cells (grownCap w (n + Ys.length) old ti.elem - (n + Ys.length))) ti.elem)) ∧
        Rep g' (w.drew.alloc (.cells ((flat Us).toArray ++ (flat Ys).toArray ++ Builtin.zeroCells ze.cells (grownCap w (n + Ys.length) old ti.elem - (n + Ys.length))) ti.elem)) (.vec k z (n + ys.length) 0 (n + ys.length))
          (.slice (some ⟨w.heap.size, 0, none⟩) (n + Ys.length) (grownCap w (n + Ys.length) old ti.elem)) := by
      intro old hold1 hold
      have hge := grownCap_ge w (n + Ys.length) old ti.elem
      have hle2 := grownCap_le_maxLen w (n + Ys.length) old ti.elem hmax
      have hsize : grownCap w (n + Ys.length) old ti.elem * z = ((flat Us).toArray ++ (flat Ys).toArray ++ Builtin.zeroCells ze.cells (grownCap w (n + Ys.length) old ti.elem - (n + Ys.length))).size := by
        simp only [Array.size_append, List.size_toArray, size_zeroCells, hzc, flat_length hus, flat_length hys, ← Nat.add_mul, hul]
        congr 1
        omega
      let cells := (flat Us).toArray ++ (flat Ys).toArray ++ Builtin.zeroCells ze.cells (grownCap w (n + Ys.length) old ti.elem - (n + Ys.length))
      have hI' := hI.drew (w.drawn + 1)
      have hzone : ∀ b o, (⟨some ⟨w.heap.size, 0, none⟩, n + ys.length, grownCap w (n + Ys.length) old ti.elem, z, 0⟩ : Rec).zone b o → b = w.heap.size ∧ o < cells.size := by
        rintro b o ⟨p, hp, rfl, e1, e2⟩
        cases hp
        refine ⟨rfl, ?_⟩
        show o < cells.size
        rw [← hsize]
        simpa using e2
      obtain ⟨g', e1, e2, e3, _⟩ := retk (r' := ⟨some ⟨w.heap.size, 0, none⟩, n + ys.length, grownCap w (n + Ys.length) old ti.elem, z, 0⟩) (t' := .vec (xs ++ ys)) (J := fun _ _ => False) hI' (w' := pushW w.drew (.cells cells ti.elem)) (.inl ⟨kl, rfl⟩)
        (by rw [push_size]; exact Nat.le_succ _) rfl rfl rfl (fun b hb _ => push_old w.drew _ hb) (fun b o hb _ => (cell_old (push_old w.drew _ hb)).1) (fun b o hb => (cell_old (push_old w.drew _ hb)).2) (fun _ _ h => h.elim)
        (fun b o ho => by
          obtain ⟨rfl, h2⟩ := hzone b o ho
          refine ⟨?_, new_data_frozen w.drew cells ti.elem o, .inl (Nat.le_refl _)⟩
          have := new_data_cell w.drew cells ti.elem o
          exact ⟨cells[o], this.trans (Array.getElem?_eq_getElem h2)⟩)
        (fun r1 hr1 => by
          have : r1 = r0 := Option.some.inj (hr1.symm.trans hv.hr)
          subst this
          exact .inr ⟨by rw [hv.n, hn]; show n < n + ys.length; omega, by rw [hv.sz]⟩)
        (fun g' hle => ⟨hlen.symm, rfl, (by show n + ys.length ≤ grownCap w (n + Ys.length) old ti.elem; omega), Us ++ Ys, (RepL.mono hle _ _ (RepL.mono (Ext.drew g w (w.drawn + 1)).le _ _ hv.rep)).append (RepL.mono hle _ _ (RepL.mono (Ext.drew g w (w.drawn + 1)).le _ _ hsrc.rep)), (fun e => by cases e), hall, fun p hp => by
          cases hp
          refine ⟨.inl rfl, inMemE_of_flat hall fun j u hj => ?_⟩
          refine ⟨trivial, ?_, ?_⟩
          · show (pushW w.drew (.cells cells ti.elem)).cell? ⟨w.heap.size, 0 + j, none⟩ = some u
            rw [Nat.zero_add]
            refine (new_data_cell w.drew cells ti.elem j).trans ?_
            rw [flat_append] at hj
            have hlt := (List.getElem?_eq_some_iff.1 hj).1
            rw [← Array.getElem?_toList, Array.toList_append, Array.toList_append, List.getElem?_append_left (by simpa using hlt)]
            simpa using hj
          · have hm := List.mem_of_getElem? hj
            rw [flat_append] at hm
            exact (List.mem_append.1 hm).elim (hold1 u) (hsrc.one u)⟩)
      refine ⟨g', (Ext.drew g w _).trans e1, e2, some ⟨w.heap.size, 0, none⟩, grownCap w (n + Ys.length) old ti.elem, by rw [hyl]; rfl, Nat.zero_le _, Nat.le_refl _, by omega, hle2, (fun _ => ⟨_, _, rfl⟩), _, e3, rfl, Nat.le_refl _, fun _ => ⟨rfl, rfl, fun _ => ⟨_, rfl, rfl, by simp⟩⟩⟩
    cases a0 with
    | none =>
      have hc0 : cap = 0 := by
        rcases Nat.eq_zero_or_pos cap with h | h
        · exact h
        · obtain ⟨b, o, hh⟩ := c5 h; cases hh
      subst hc0
      have hn0 : n = 0 := by omega
      subst hn0
      have hU0 := List.eq_nil_of_length_eq_zero hul
      subst hU0
      obtain ⟨g', n1, n2, n3⟩ := grow 0 (by simp [flat]) (by simpa using hm0)
      have hrun := run_append_nil (P := P) w T ty ti.elem ie ze t2 u1 u8 sb Ys.length sc (flat Ys) hfl (fun j v hj => (hscell j v hj).1) hm0 (by have := hmax; unfold maxLen at this; simp at this; omega) (by have := hfit 0 (by simpa using hm0); rw [Nat.zero_add, nextslicecap_zero hm0] at this; exact this)
      refine ⟨_, _, g', hrun, ?_, ?_, ?_⟩
      · simpa [flat] using n1
      · simpa [flat] using n2
      · simpa [flat] using n3
    | some p =>
      by_cases hcap : 0 < cap
      case neg =>
        have hc0 : cap = 0 := by omega
        subst hc0
        have hn0 : n = 0 := by omega
        subst hn0
        have hU0 := List.eq_nil_of_length_eq_zero hul
        subst hU0
        obtain ⟨g', n1, n2, n3⟩ := grow 0 (by simp [flat]) (by simpa using hm0)
        have hrun := run_append_grow (P := P) w T ty ti.elem ie ze t2 u1 u8 p 0 0 (flat []) hful (fun j v hj => by simp [flat] at hj) sb Ys.length sc (flat Ys) hfl (fun j v hj => (hscell j v hj).1) (by simpa using hm0) (by have := hmax; unfold maxLen at this; omega) (hfit 0 (by simpa using hm0))
        exact ⟨_, _, g', hrun, n1, n2, n3⟩
      obtain ⟨q, hq, hqs, hpq⟩ := l3 hcap
      obtain ⟨qb, qo, qs⟩ := q
      cases (show qs = none from hqs)
      cases hpq
      have hmem := (hv.mem _ hq).2
      have hfU : ∀ (j : Nat) (v : Value), (flat Us)[j]? = some v → w.cell? ((⟨qb, qo, none⟩ : Addr).add j) = some v ∧ v.oneCell' = true := fun j v hj => by
        obtain ⟨m1, m2, m3⟩ := hmem.flat hj
        rw [addr_add]
        exact ⟨m2, m3⟩
      have hone : ∀ v ∈ flat Us, v.oneCell' = true := fun v hv => by
        obtain ⟨j, hj⟩ := List.getElem?_of_mem hv
        exact (hfU j v hj).2
      by_cases hroom : n + Ys.length ≤ cap
      · have hfc : (Builtin.firstCells ie.size Ys.length (.slice (some sb) Ys.length sc)).run P w = .ok (flat Ys).toArray w := run_firstCells_some (P := P) w ie.size Ys.length sb Ys.length sc (flat Ys) hfl (fun j v hj => (hscell j v hj).1)
        have hbnd : n * z + (flat Ys).length ≤ r0.cap * z := by
          rw [hfl, u6, hzz, ← Nat.add_mul, l2]
          exact Nat.mul_le_mul_right _ hroom
        have hpos : 0 < (flat Ys).length := by rw [hfl, u6, hzz]; exact Nat.mul_pos hm0 hz0
        have hzr : ∀ j, j < (flat Ys).length → r0.zone qb (qo + n * z + j) := fun j hj => by rw [Nat.add_assoc]; exact hv.zone hq (by omega)
        obtain ⟨w', hst, hs⟩ := run_stored (P := P) qb (flat Ys) 0 (qo + n * z) w (fun j hj => (hI.tkz k r0 hv.hr qb _ (by simpa using hzr j hj)).2.2.1) (fun j hj => (hI.tkz k r0 hv.hr qb _ (by simpa using hzr j hj)).2.2.2) hsrc.one
        obtain ⟨g', n1, n2, n3⟩ := vec_write hI hv hTk hq rfl hs hbnd hpos (ys := xs ++ ys) (Us := Us ++ Ys) (hv.rep.append hsrc.rep) hall (by rw [hlen, hn]; omega) (.inr (by rw [hlen, hn]; omega)) (by rw [hlen]; omega)
          (inMemE_of_flat hall fun j u hj => by
            rw [flat_append] at hj
            refine ⟨trivial, ?_⟩
            show w'.cell? ⟨qb, qo + j, none⟩ = some u ∧ u.oneCell' = true
            by_cases hjl : j < (flat Us).length
            · rw [List.getElem?_append_left hjl] at hj
              obtain ⟨m1, m2⟩ := hfU j u hj
              rw [addr_add] at m1
              rw [hful, u6, hzz] at hjl
              exact ⟨(hs.there (qo + j) (.inl (by omega))).trans m1, m2⟩
            · rw [List.getElem?_append_right (by omega)] at hj
              have hj' := hs.here (j - (flat Us).length) u hj
              have hful' : (flat Us).length = n * z := by rw [hful, u6, hzz]
              have hidx : qo + n * z + 0 + (j - (flat Us).length) = qo + j := by rw [← hful']; omega
              rw [hidx] at hj'
              exact ⟨hj', hsrc.one u (List.mem_of_getElem? hj)⟩)
        refine ⟨.slice (some ⟨qb, qo, none⟩) (n + Ys.length) cap, w', g', ?_, n1, n2, some ⟨qb, qo, none⟩, cap, by rw [hyl]; rfl, Nat.zero_le _, Nat.le_refl _, by omega, c4, (fun _ => ⟨_, _, rfl⟩), _, n3, hz, by rw [hlen]; exact Nat.le_refl _, fun _ => ⟨hv.lo, l2, fun _ => ⟨_, hq, rfl, by simp⟩⟩⟩
        have hadd : (⟨qb, qo, none⟩ : Addr).add (n * ie.size) = ⟨qb, qo + n * z, none⟩ := by rw [addr_add, u6, hzz]
        simp [Builtin.append_, run_underlying t2, sizeOf, typeInfo, u1, Builtin.lenOf, hroom, hfc, hadd, hst]
      · obtain ⟨g', n1, n2, n3⟩ := grow cap hone (by omega)
        have hrun := run_append_grow (P := P) w T ty ti.elem ie ze t2 u1 u8 ⟨qb, qo, none⟩ n cap (flat Us) hful (fun j v hj => (hfU j v hj).1) sb Ys.length sc (flat Ys) hfl (fun j v hj => (hscell j v hj).1) (by omega) (by have := hmax; unfold maxLen at this; omega) (hfit cap (by omega))
        exact ⟨_, _, g', hrun, n1, n2, n3⟩
theorem A.vappend {T : TypeId} {x y : Operand} {xs ys : List AV} {t : Tk} {k z n m : Nat} {ti te : TI} {T' : List Tok} (hT : ty? P T = some ti) (hk : ti.kind = .slice) (hE : ty? P ti.elem = some te) (hz : Nat.beq te.size z = true) (hz0 : Nat.blt 0 z = true)
    (hx : ev? s x = some (.vec k z n 0 n)) (hy : ev? s y = some (.slice ys t)) (hTk : σ.T[k]? = some (.vec xs)) (hn : xs.length = n) (hf : fitsAll te.agg te.size ys = true) (hm : n + ys.length = m)
    (hb : m * te.bytes ≤ 140737488355328) (hb' : m ≤ 4611686018427387904) (hT' : setTK k (.vec (xs ++ ys)) σ.T some = some T')
    (kk : AOps P all draw K rest (.tk :: acc) ((d, .vec k z m 0 m) :: s) ⟨σ.B, T'⟩) : AOps P all draw K (⟨some d, .call ⟨.builtin .append, #[x, y], #[T, T]⟩, ty, pos, af, none⟩ :: rest) acc s σ :=
  A.step (t := .tk) (σ' := ⟨σ.B, T'⟩) rfl ⟨rfl, fun B => by
    intro g w a next Q hI ho hn'
    subst hm
    have h1 := op1 hx (by simp [Op.operands, Call.operands]) ho
    have h2 := op1 hy (by simp [Op.operands, Call.operands]) ho
    obtain ⟨Ys, hsrc⟩ := src_of h2 hf
    obtain ⟨kl, hTe⟩ := setTK_spec _ _ _ _ _ hT'
    obtain ⟨v, w', g', e1, e2, e3, e4⟩ := vappend_sem (σ := ⟨B, σ.T⟩) (ty := ty) hT hk hE (Nat.eq_of_beq_eq_true hz) (Nat.le_of_ble_eq_true hz0) hI h1 hsrc hTk hn hb hb'
    unfold Oper.wp
    rw [run_append_op e1]
    refine hn' v w' g' e2 ?_ e4
    rw [show (⟨σ.B, T'⟩ : St).T = T' from rfl, ← Option.some.inj hTe]
    exact e3⟩ kk
theorem A.vappend_new {T : TypeId} {x y : Operand} {ys : List AV} {t t' : Tk} {k m : Nat} {ti te : TI} {T' : List Tok} (hT : ty? P T = some ti) (hk : ti.kind = .slice) (hE : ty? P ti.elem = some te) (hz0 : Nat.blt 0 te.size = true)
    (hx : ev? s x = some (.slice [] t')) (ht : t'.fresh = true) (hy : ev? s y = some (.slice ys t)) (hkk : smallLen σ.T = some k) (hf : fitsAll te.agg te.size ys = true) (hm : ys.length = m)
    (hb : m * te.bytes ≤ 140737488355328) (hb' : m ≤ 4611686018427387904) (hT' : snocK σ.T (.vec ys) some = some T')
    (kk : AOps P all draw K rest (.tk :: acc) ((d, .vec k te.size m 0 m) :: s) ⟨σ.B, T'⟩) : AOps P all draw K (⟨some d, .call ⟨.builtin .append, #[x, y], #[T, T]⟩, ty, pos, af, none⟩ :: rest) acc s σ :=
  A.step (t := .tk) (σ' := ⟨σ.B, T'⟩) rfl ⟨rfl, fun B => by
    intro g w a next Q hI ho hn'
    subst hm
    have h1 := op1 hx (by simp [Op.operands, Call.operands]) ho
    have h2 := op1 hy (by simp [Op.operands, Call.operands]) ho
    obtain ⟨g1, e1, e2, e3⟩ := vadopt_sem (z := te.size) hI ht h1
    obtain ⟨Ys, hsrc⟩ := src_of (Rep.mono e1.le _ _ h2) hf
    have hkl : σ.T.length = k := smallLen_spec hkk
    have hTe : σ.T ++ [Tok.vec ys] = T' := Option.some.inj (snocK_spec _ _ _ _ hT')
    obtain ⟨v, w', g', f1, f2, f3, f4⟩ := vappend_sem (σ := ⟨B, σ.T ++ [.vec []]⟩) (ty := ty) (n := 0) (xs := []) hT hk hE rfl (Nat.le_of_ble_eq_true hz0) e2 e3 hsrc (by simp) rfl (by simpa using hb) (by simpa using hb')
    unfold Oper.wp
    rw [run_append_op f1]
    refine hn' v w' g' (e1.trans f2) ?_ (by rw [← hkl]; simpa using f4)
    have : (σ.T ++ [Tok.vec []]).set σ.T.length (.vec ([] ++ ys)) = T' := by rw [← hTe]; simp
    rw [← this]
    exact f3⟩ kk
end rules
end Go.Av
set_option linter.unusedVariables false
namespace Go.Av
open Go
set_option linter.unusedSectionVars false
variable [Globals]
theorem flat_take {sz : Nat} : ∀ {Vs : List Value} (i : Nat), (∀ V ∈ Vs, V.cells.size = sz) → flat (Vs.take i) = (flat Vs).take (i * sz)
  | [], i, _ => by simp [flat]
  | V :: Vs, 0, h => by simp [flat]
  | V :: Vs, i + 1, h => by
    have hV := h V (by simp)
    rw [List.take_succ_cons, flat_cons, flat_cons, flat_take i (fun V hV => h V (by simp [hV])), Nat.succ_mul, Nat.add_comm, List.take_append, List.take_of_length_le (l := V.cells.toList) (by rw [Array.length_toList]; omega), Array.length_toList, hV, Nat.add_sub_cancel_left]
theorem flat_drop {sz : Nat} : ∀ {Vs : List Value} (i : Nat), (∀ V ∈ Vs, V.cells.size = sz) → flat (Vs.drop i) = (flat Vs).drop (i * sz)
  | [], i, _ => by simp [flat]
  | V :: Vs, 0, h => by simp
  | V :: Vs, i + 1, h => by
    have hV := h V (by simp)
    rw [List.drop_succ_cons, flat_cons, flat_drop i (fun V hV => h V (by simp [hV])), Nat.succ_mul, Nat.add_comm, List.drop_append, List.drop_of_length_le (l := V.cells.toList) (by rw [Array.length_toList]; omega), Array.length_toList, hV, Nat.add_sub_cancel_left, List.nil_append]
theorem flat_set {sz : Nat} {Vs : List Value} {j : Nat} {V' : Value} (h : ∀ V ∈ Vs, V.cells.size = sz) (hj : j < Vs.length) : flat (Vs.set j V') = (flat Vs).take (j * sz) ++ V'.cells.toList ++ (flat Vs).drop ((j + 1) * sz) := by
  rw [List.set_eq_take_append_cons_drop, if_pos hj, flat_append, flat_cons, flat_take j h, flat_drop (j + 1) h, List.append_assoc]
section
variable {P : Program} {g : Gh} {σ : St} {w : World}
theorem vec_put (hI : Inv g σ w) {k z : Nat} {xs ys : List AV} {r : Rec} {Vs Us : List Value} (h : VecAt g w k z xs r Vs) (hT : σ.T[k]? = some (.vec xs)) {p : Addr} (hp : r.base = some p) (hps : p.spot = none) {at_ : Nat} {cs : List Value}
    (hfl : flat Us = (flat Vs).take at_ ++ cs ++ (flat Vs).drop (at_ + cs.length)) (hat0 : at_ ≤ (flat Vs).length) (hat : at_ + cs.length ≤ r.cap * z) (hcs : 0 < cs.length) (hone : ∀ v ∈ cs, v.oneCell' = true) (hU : RepL g w ys Us) (hUs : ∀ V ∈ Us, V.cells.size = z) (hlen : xs.length ≤ ys.length) (hcap : ys.length ≤ r.cap) :
    ∃ w' g', (storeCells ⟨p.block, p.off + at_, none⟩ cs).run P w = .ok () w' ∧ Ext g w g' w' ∧ Inv g' ⟨σ.B, σ.T.set k (.vec ys)⟩ w' ∧ g'.tk[k]? = some { r with n := ys.length } := by
  have hzr : ∀ j, j < cs.length → r.zone p.block (p.off + at_ + j) := fun j hj => by rw [Nat.add_assoc]; exact h.zone hp (by omega)
  obtain ⟨w', hst, hs⟩ := run_stored (P := P) p.block cs 0 (p.off + at_) w (fun j hj => (hI.tkz k r h.hr p.block _ (by simpa using hzr j hj)).2.2.1) (fun j hj => (hI.tkz k r h.hr p.block _ (by simpa using hzr j hj)).2.2.2) hone
  obtain ⟨g', n1, n2, n3⟩ := vec_write hI h hT hp hps hs hat hcs hU hUs hlen (by omega) hcap
    (inMemE_of_flat hUs fun j u hj => by
      refine ⟨trivial, ?_⟩
      rw [hfl] at hj
      by_cases h1 : j < at_
      · rw [List.append_assoc, List.getElem?_append_left (by simp; omega), List.getElem?_take_of_lt h1] at hj
        obtain ⟨_, m2, m3⟩ := (h.mem p hp).2.flat hj
        exact ⟨(hs.there (p.off + j) (.inl (by omega))).trans m2, m3⟩
      · by_cases h2 : j < at_ + cs.length
        · rw [List.getElem?_append_left (by simp; omega), List.getElem?_append_right (by simp; omega)] at hj
          have hta : ((flat Vs).take at_).length = at_ := by simp; omega
          rw [hta] at hj
          have := hs.here (j - at_) u hj
          rw [show p.off + at_ + 0 + (j - at_) = p.off + j by omega] at this
          exact ⟨this, hone u (List.mem_of_getElem? hj)⟩
        · rw [List.getElem?_append_right (by simp; omega), List.getElem?_drop] at hj
          have hta : ((flat Vs).take at_ ++ cs).length = at_ + cs.length := by simp; omega
          rw [hta, show at_ + cs.length + (j - (at_ + cs.length)) = j by omega] at hj
          obtain ⟨_, m2, m3⟩ := (h.mem p hp).2.flat hj
          exact ⟨(hs.there (p.off + j) (.inr (by omega))).trans m2, m3⟩)
  exact ⟨w', g', hst, n1, n2, n3⟩
theorem load_cells [Lay P] {T : TypeId} {ti : TI} (hT : ty? P T = some ti) {b o off : Nat} {cs : List AV} {vals : List Value} {v : AV} (hl : RepL g w cs vals) (hone : ∀ u ∈ vals, u.oneCell' = true)
    (hcell : ∀ (j : Nat) (u : Value), vals[j]? = some u → w.cell? ⟨b, o + j, none⟩ = some u) (hv : cut ti.agg ti.size off cs = some v) : ∃ V, Rep g w v V ∧ (loadVar T ⟨b, o + off, none⟩).run P w = .ok V w := by
  obtain ⟨V, hV, h2, h3, h4⟩ : ∃ V, Rep g w v V ∧ (∀ (j : Nat) (u : Value), V.cells[j]? = some u → w.cell? ⟨b, o + off + j, none⟩ = some u) ∧ (ti.agg = true → ∃ vs, V = .agg vs ∧ vs.size = ti.size) ∧ (ti.agg = false → V.cells = #[V]) := by
    rcases cut_spec hv with ⟨ha, _, rfl, hlen⟩ | ⟨ha, hg⟩
    · have hl2 := (hl.drop off).take ti.size
      have hsz : ((vals.drop off).take ti.size).length = ti.size := by
        have := (hl.drop off).length
        rw [List.length_take, this]
        omega
      refine ⟨.agg ((vals.drop off).take ti.size).toArray, ⟨_, rfl, by simpa using hl2, fun u hu => ?_⟩, fun j u hj => ?_, fun _ => ⟨_, rfl, by simpa using hsz⟩, fun e => ?_⟩
      · exact hone u (List.mem_of_mem_drop (List.mem_of_mem_take (i := ti.size) (l := vals.drop off) (by simpa using hu)))
      · rw [Nat.add_assoc]
        refine hcell _ u ?_
        simp only [Value.cells, List.getElem?_toArray, List.getElem?_take, List.getElem?_drop] at hj
        split at hj
        · exact hj
        · cases hj
      · rw [ha] at e; cases e
    · obtain ⟨u, hu, hr⟩ := hl.get hg
      have h1c := hone u (List.mem_of_getElem? hu)
      have hc : u.cells = #[u] := by cases u <;> first | rfl | cases h1c
      refine ⟨u, hr, fun j u' hj => ?_, fun e => ?_, fun _ => hc⟩
      · rw [hc] at hj
        cases j with
        | zero => simp at hj; subst hj; exact hcell off u hu
        | succ j => simp at hj
      · rw [ha] at e; cases e
  exact ⟨V, hV, run_loadVar_mem hT h2 h3 h4⟩
end
def mkElem (agg : Bool) (cs : List AV) : Option AV :=
  match agg with
  | true => some (.agg cs)
  | false => match cs with
    | [c] => some c
    | _ => none
theorem mkElem_spec {g : Gh} {w : World} {agg : Bool} {cs : List AV} {LV : List Value} {e1 : AV} (h : mkElem agg cs = some e1) (hl : RepL g w cs LV) (ho : ∀ u ∈ LV, u.oneCell' = true) : ∃ V' : Value, V'.cells.toList = LV ∧ Rep g w e1 V' := by
  cases agg with
  | true =>
    cases h
    exact ⟨.agg LV.toArray, by simp [Value.cells], _, rfl, by simpa using hl, by simpa using ho⟩
  | false =>
    match cs, h, hl with
    | [c], h, ⟨u, rest, e, h3, h4⟩ =>
      cases h
      have : rest = [] := h4
      subst this
      subst e
      have h1c := ho u (by simp)
      have hcv : u.cells = #[u] := by cases u <;> first | rfl | cases h1c
      exact ⟨u, by rw [hcv], h3⟩
    | [], h, _ => cases h
    | _ :: _ :: _, h, _ => cases h
section rules
variable {P : Program} [Lay P] {all : Array Oper} {draw : Bool} {K : AX → Slots → St → Prop} {rest : List Oper} {acc : List Tag} {s : Slots} {σ : St}
variable {d : Tmp} {ty : TypeId} {pos : String} {af : Array Edge}
theorem A.vindex {T : TypeId} {x i : Operand} {k z n lo hi : Nat} {ik : IntKind} {m : Int} {j r : Nat} {ti te : TI} (hT : ty? P T = some ti) (hk : ti.kind = .slice) (hE : ty? P ti.elem = some te) (hz : Nat.beq te.size z = true)
    (hx : ev? s x = some (.vec k z n lo hi)) (hi' : ev? s i = some (.int ik m)) (hj : m = (j : Int)) (hlt : j < hi - lo) (hr : lo + j = r)
    (kk : AOps P all draw K rest (.pure :: acc) ((d, .vptr k z n r 0) :: s) σ) : AOps P all draw K (⟨some d, .indexAddr T x i, ty, pos, af, none⟩ :: rest) acc s σ :=
  A.step rfl (tpure fun g w a ho => by
    have h1 := op1 hx (by simp [Op.operands]) ho
    have h2 : a.eval i = .int ik m := op1 hi' (by simp [Op.operands]) ho
    obtain ⟨a0, cap, e, c1, c2, c3, c4, c5, rr, hrr, hrz, hle, h6⟩ := h1
    obtain ⟨info, dd, z0, t1, t2, t3, t4, _⟩ := (ty_ok hT).ex
    have hd : ∃ e, dd = .slice e := by rw [hk] at t3; cases dd <;> first | exact ⟨_, rfl⟩ | cases t3
    obtain ⟨el, rfl⟩ := hd
    have hel : el = ti.elem := t4
    subst hel
    have hzz : te.size = z := Nat.eq_of_beq_eq_true hz
    obtain ⟨qb, qo, rfl⟩ := c5 (by omega)
    subst hj
    refine ⟨.pointer (some ⟨qb, qo + j * z, none⟩), ?_, qb, qo + j * z, rfl, by omega, rr, hrr, hrz, hle, fun hn => ?_⟩
    · rw [← hzz]
      simp [execOp, Instr.indexAt, e, h2, asIntOf, run_underlying t2, Result.andThen, run_sizeOf' hE, hlt, addr_add]
    · obtain ⟨l1, l2, l3⟩ := h6 hn
      obtain ⟨p, hp, hps, hpa⟩ := l3 (by omega)
      cases hpa
      exact ⟨l1, p, hp, hps, rfl, by rw [← hr, Nat.add_mul]; omega⟩) kk
theorem A.vfield {T : TypeId} {x : Operand} {f k z nn j off o n : Nat} {ag : Bool} {ti : TI} {r : Nat} (hT : ty? P T = some ti) (hx : ev? s x = some (.vptr k z nn j off)) (hf : ti.fields[f]? = some (o, n, ag)) (hk : ti.kind = .struct) (hn : Nat.blt 0 n = true)
    (hr : off + o = r) (kk : AOps P all draw K rest (.pure :: acc) ((d, .vptr k z nn j r) :: s) σ) : AOps P all draw K (⟨some d, .fieldAddr T x f, ty, pos, af, none⟩ :: rest) acc s σ :=
  A.step rfl (tpure fun g w a ho => by
    have h1 := op1 hx (by simp [Op.operands]) ho
    obtain ⟨b, oo, e, hj, rr, hrr, hrz, hle, h6⟩ := h1
    refine ⟨.pointer (some ⟨b, oo + o, none⟩), ?_, b, oo + o, rfl, hj, rr, hrr, hrz, hle, fun hn => ?_⟩
    · obtain ⟨info, dd, z, t1, t2, t3, t4, t5, t6, t7, t8, t9, t10, t11, t12, t13⟩ := (ty_ok hT).ex
      have hd : ∃ fs, dd = .struct fs := by rw [hk] at t3; cases dd <;> first | exact ⟨_, rfl⟩ | cases t3
      obtain ⟨fs, rfl⟩ := hd
      rw [← t11] at hf
      simp only [fieldsOf, List.getElem?_map, Option.map_eq_some_iff, Prod.mk.injEq] at hf
      obtain ⟨fd, hfd, rfl, hs, _⟩ := hf
      rw [Array.getElem?_toList] at hfd
      have hin := t13 fs rfl fd (by simpa using Array.mem_of_getElem? hfd)
      have hsz : (sizeOf fd.type).run P w = .ok n w := by
        unfold sizeOf
        cases hi' : P.info? fd.type with
        | none => rw [hi'] at hin; simp at hin
        | some inf =>
          have : P.cellsOf fd.type = inf.size := by simp [Program.cellsOf, hi']
          simp only [Sem.run_bind, run_info hi', Result.andThen]
          rw [← hs, this]
          rfl
      have hn0 : n ≠ 0 := by have := Nat.le_of_ble_eq_true hn; omega
      simp only [execOp, e, Instr.fieldAt, Sem.run_bind, run_underlying t2, Result.andThen, hfd, Instr.sureAddr, Sem.run_pure, fieldPlace, hsz, if_neg hn0, addr_add]
    · obtain ⟨l1, p, hp, hps, rfl, rfl⟩ := h6 hn
      exact ⟨l1, p, hp, hps, rfl, by omega⟩) kk
theorem vptr_at {g : Gh} {w : World} (hI : Inv g σ w) {k z n j off : Nat} {xs : List AV} {u : Value} (h : Rep g w (.vptr k z n j off) u) (hT : σ.T[k]? = some (.vec xs)) (hn : xs.length = n) :
    ∃ r Vs p, VecAt g w k z xs r Vs ∧ r.base = some p ∧ p.spot = none ∧ u = .pointer (some ⟨p.block, p.off + j * z + off, none⟩) ∧ j < Vs.length := by
  obtain ⟨b, o, rfl, hj, r, hr, hz, hle, h6⟩ := h
  obtain ⟨t1, t2, t3, Vs, t4, t5, t6, t7⟩ := hI.tok k _ r hr hT
  obtain ⟨l1, p, hp, hps, rfl, rfl⟩ := h6 (by rw [t1, hn])
  subst hz
  exact ⟨r, Vs, p, ⟨hr, rfl, t1, t2, by omega, t4, t5, t6, t7⟩, hp, hps, rfl, by rw [t4.length, hn]; exact hj⟩
theorem A.vload {T : TypeId} {x : Operand} {k z n j off : Nat} {xs : List AV} {y v : AV} {ti : TI} (hT : ty? P T = some ti) (hx : ev? s x = some (.vptr k z n j off)) (hTk : σ.T[k]? = some (.vec xs)) (hn : xs.length = n) (hy : xs[j]? = some y)
    (hv : cellsK y (fun cs => cut ti.agg ti.size off cs) = some v) (kk : AOps P all draw K rest (.rt :: acc) ((d, v) :: s) σ) : AOps P all draw K (⟨some d, .load T x, ty, pos, af, none⟩ :: rest) acc s σ :=
  A.step (t := .rt) rfl ⟨rfl, fun B => by
    intro g w a next Q hI ho hn'
    have h1 := op1 hx (by simp [Op.operands]) ho
    obtain ⟨r, Vs, p, hva, hp, hps, e, hj⟩ := vptr_at (σ := ⟨B, σ.T⟩) hI h1 hTk hn
    obtain ⟨V, hV, hr⟩ := hva.rep.get hy
    obtain ⟨cs, hcut, hl, hone⟩ := cellsK_spec hv hr
    obtain ⟨m1, m2⟩ := (hva.mem p hp).2 j V hV
    obtain ⟨W, hW, hrun⟩ := load_cells (P := P) hT (b := p.block) (o := p.off + j * z) hl hone (fun i u hi => (m2 i u (by rw [← Array.getElem?_toList]; exact hi)).2.1) hcut
    unfold Oper.wp
    simp only [execOp, e, Instr.loadAt, Instr.sureAddr, Sem.run_bind, Sem.run_pure, Result.andThen]
    rw [hrun]
    exact hn' W w g (Ext.refl g w) hI hW⟩ kk
theorem A.vstore {T : TypeId} {x y : Operand} {k z n j off : Nat} {xs : List AV} {e0 e1 v : AV} {ti : TI} {agg : Bool} {T' : List Tok} (hT : ty? P T = some ti) (hx : ev? s x = some (.vptr k z n j off)) (hy : ev? s y = some v) (hf : fits ti.agg ti.size v = true) (hTk : σ.T[k]? = some (.vec xs)) (hn : xs.length = n)
    (he : xs[j]? = some e0) (hz : (agg || Nat.beq z 1) = true) (hpos : Nat.blt 0 ti.size = true) (hv : cellsK v (fun vs => cellsK e0 (fun cs => overK off vs cs (mkElem agg))) = some e1) (hT' : setTK k (.vec (xs.set j e1)) σ.T some = some T')
    (kk : AOps P all draw K rest (.tk :: acc) s ⟨σ.B, T'⟩) : AOps P all draw K (⟨none, .store T x y, ty, pos, af, none⟩ :: rest) acc s σ :=
  A.step (t := .tk) (v := .undef) (σ' := ⟨σ.B, T'⟩) rfl ⟨rfl, fun B => by
    intro g w a next Q hI ho hn'
    have h1 := op1 hx (by simp [Op.operands]) ho
    have h2 := op1 hy (by simp [Op.operands]) ho
    obtain ⟨kl, hTe⟩ := setTK_spec _ _ _ _ _ hT'
    obtain ⟨r, Vs, p, hva, hp, hps, e, hj⟩ := vptr_at (σ := ⟨B, σ.T⟩) hI h1 hTk hn
    obtain ⟨V, hV, hr⟩ := hva.rep.get he
    obtain ⟨vs, hv1, hl1, ho1⟩ := cellsK_spec hv h2
    obtain ⟨cs, hv2, hl2, ho2⟩ := cellsK_spec hv1 hr
    obtain ⟨hlen, hv3⟩ := overK_spec _ _ _ _ _ hv2
    obtain ⟨f1, _, f3, _⟩ := fits_spec hf h2
    have hVs := hva.size V (List.mem_of_getElem? hV)
    have hcl : cs.length = z := by rw [← hl2.length]; simpa using hVs
    have hvl : vs.length = ti.size := by rw [← hl1.length]; simpa using f1
    have hxl : j < xs.length := (List.getElem?_eq_some_iff.1 he).1
    have hz1 : agg = false → z = 1 := by
      intro e
      rw [e] at hz
      exact Nat.eq_of_beq_eq_true (by simpa using hz)
    have hrl : RepL g w (cs.take off ++ vs ++ cs.drop (off + vs.length)) (V.cells.toList.take off ++ (a.eval y).cells.toList ++ V.cells.toList.drop (off + vs.length)) := ((hl2.take off).append hl1).append (hl2.drop _)
    have hroh : ∀ u ∈ V.cells.toList.take off ++ (a.eval y).cells.toList ++ V.cells.toList.drop (off + vs.length), u.oneCell' = true := by
      intro u hu
      simp only [List.mem_append] at hu
      rcases hu with (hu | hu) | hu
      · exact ho2 u (List.mem_of_mem_take hu)
      · exact ho1 u hu
      · exact ho2 u (List.mem_of_mem_drop hu)
    obtain ⟨V', hV1, hV2⟩ := mkElem_spec hv3 hrl hroh
    have hV's : V'.cells.size = z := by
      have := congrArg List.length hV1
      rw [Array.length_toList] at this
      rw [this]
      have hle := hl1.length
      simp only [List.length_append, List.length_take, List.length_drop, Array.length_toList, hVs, f1]
      omega
    have hfl : (flat Vs).length = Vs.length * z := flat_length hva.size
    have hb : (j + 1) * z ≤ Vs.length * z := Nat.mul_le_mul_right _ (by omega)
    rw [Nat.succ_mul] at hb
    have hcap : Vs.length * z ≤ r.cap * z := Nat.mul_le_mul_right _ (by rw [hva.len]; exact hva.cap)
    have hal : (a.eval y).cells.toList.length = ti.size := by simpa using f1
    have hp0 : 0 < ti.size := Nat.le_of_ble_eq_true hpos
    have hdec : V.cells.toList = ((flat Vs).drop (j * z)).take z := by
      apply List.ext_getElem?
      intro i
      by_cases hi : i < z
      · rw [List.getElem?_take_of_lt hi, List.getElem?_drop, flat_get hva.size hV hi]
        simp
      · rw [List.getElem?_eq_none (by simp; omega), List.getElem?_eq_none (by simp; omega)]
    obtain ⟨w', g', s1, s2, s3, s4⟩ := vec_put (P := P) (σ := ⟨B, σ.T⟩) hI hva hTk hp hps (at_ := j * z + off) (cs := (a.eval y).cells.toList) (ys := xs.set j e1) (Us := Vs.set j V')
      (by
        rw [flat_set hva.size hj, hV1, hdec, List.take_take, Nat.min_eq_left (by omega), List.drop_take, List.drop_drop]
        have e1' : (flat Vs).take (j * z + off) = (flat Vs).take (j * z) ++ ((flat Vs).drop (j * z)).take off := by rw [← List.take_add]
        have e2' : (flat Vs).drop (j * z + off + (a.eval y).cells.toList.length) = ((flat Vs).drop (j * z + (off + vs.length))).take (z - (off + vs.length)) ++ (flat Vs).drop ((j + 1) * z) := by
          have h := (List.take_append_drop (z - (off + vs.length)) ((flat Vs).drop (j * z + (off + vs.length)))).symm
          rw [List.drop_drop, show j * z + (off + vs.length) + (z - (off + vs.length)) = (j + 1) * z by rw [Nat.succ_mul]; omega] at h
          rw [hal, ← hvl, Nat.add_assoc]
          exact h
        rw [e1', e2']
        simp only [List.append_assoc])
      (by omega) (by omega) (by omega) ho1 (hva.rep.set j hV2) (fun U hU => by
        rcases List.mem_or_eq_of_mem_set hU with h | rfl
        · exact hva.size U h
        · exact hV's) (by simp) (by rw [List.length_set]; exact hva.cap)
    unfold Oper.wp
    simp only [execOp, e, Instr.storeAt, Instr.sureAddr, storeVar, Sem.run_bind, Sem.run_pure, Result.andThen, run_sizeOf' hT, f1, ne_eq, not_true_eq_false, if_false]
    rw [Nat.add_assoc, s1]
    refine hn' undef w' g' s2 ?_ trivial
    rw [show (⟨σ.B, T'⟩ : St).T = T' from rfl, ← Option.some.inj hTe]
    exact s3⟩ kk
theorem A.vlen {T : TypeId} {x : Operand} {k z n0 lo hi : Nat} {n : Int} {ti : TI} (hT : ty? P T = some ti) (hk : ti.kind = .slice) (hx : ev? s x = some (.vec k z n0 lo hi)) (hn : ((hi - lo : Nat) : Int) = n)
    (kk : AOps P all draw K rest (.pure :: acc) ((d, .int .i64 n) :: s) σ) : AOps P all draw K (⟨some d, .call ⟨.builtin .len, #[x], #[T]⟩, ty, pos, af, none⟩ :: rest) acc s σ :=
  A.step rfl (tpure fun g w a ho => by
    obtain ⟨a0, cap, e, _⟩ := op1 hx (by simp [Op.operands, Call.operands]) ho
    refine ⟨.int .i64 (hi - lo : Nat), ?_, by rw [hn]; rfl⟩
    obtain ⟨info, dd, z, t1, t2, t3, _⟩ := (ty_ok hT).ex
    have hd : ∃ e, dd = .slice e := by rw [hk] at t3; cases dd <;> first | exact ⟨_, rfl⟩ | cases t3
    obtain ⟨el, rfl⟩ := hd
    simp [execOp, resolve, invoke, builtin, Builtin.len_, e, run_underlying t2, goInt, Result.andThen]) kk
end rules
end Go.Av
set_option linter.unusedVariables false
namespace Go.Av
open Go
set_option linter.unusedSectionVars false
variable [Globals]
section rules
variable {P : Program} [Lay P] {all : Array Oper} {draw : Bool} {K : AX → Slots → St → Prop} {rest : List Oper} {acc : List Tag} {s : Slots} {σ : St}
variable {d : Tmp} {ty : TypeId} {pos : String} {af : Array Edge}
omit [Lay P] in
theorem bound_run {y : Operand} {nh dflt : Int} {h m : Nat} {c : BoundsCode} {g : Gh} {w : World} {a : Act} (hh : bnd? s (some y) dflt = some nh) (eh : nh = (h : Int)) (hm : h ≤ m) (ho : Rep g w (ev s y) (a.eval y)) : (Instr.sliceBound (a.eval y) m c).run P w = .ok h w := by
  obtain ⟨ik, hy⟩ := bnd_some hh
  rw [ev_of hy] at ho
  have hyv : a.eval y = .int ik nh := ho
  have hb : 0 ≤ (h : Int) ∧ (h : Int) ≤ (m : Int) := by omega
  simp only [Instr.sliceBound, hyv, asIntOf, eh, Sem.run_bind, Sem.run_pure, Result.andThen]
  rw [if_pos hb]
  simp
end rules
end Go.Av
set_option linter.unusedVariables false
namespace Go.Av
open Go
set_option linter.unusedSectionVars false
variable [Globals]
def Turn (σ : St) (x : AV) (σ' : St) (y : AV) : Prop := ∀ (g : Gh) (w : World) (v : Value), Inv g σ w → Rep g w x v → ∃ g', Ext g w g' w ∧ Inv g' σ' w ∧ Rep g' w y v
theorem Turn.refl (σ : St) (x : AV) : Turn σ x σ x := fun g w v hi h => ⟨g, Ext.refl g w, hi, h⟩
theorem Turn.weak {σ : St} {x y : AV} (h : Weak x y) : Turn σ x σ y := fun g w v hi hr => ⟨g, Ext.refl g w, hi, h g w v hr⟩
theorem Turn.trans {σ σ1 σ2 : St} {x y z : AV} (h : Turn σ x σ1 y) (k : Turn σ1 y σ2 z) : Turn σ x σ2 z := fun g w v hi hr => by
  obtain ⟨g1, e1, i1, r1⟩ := h g w v hi hr
  obtain ⟨g2, e2, i2, r2⟩ := k g1 w v i1 r1
  exact ⟨g2, e1.trans e2, i2, r2⟩
theorem Turn.freeze {σ : St} {k z n lo hi : Nat} {xs : List AV} {T' : List Tok} (hT : σ.T[k]? = some (.vec xs)) (hn : xs.length = n) (hT' : setTK k (.len (n + 1)) σ.T some = some T') :
    Turn σ (.vec k z n lo hi) ⟨σ.B, T'⟩ (.slice ((xs.take hi).drop lo) .no) := fun g w v hi' hr => by
  obtain ⟨kl, hTe⟩ := setTK_spec _ _ _ _ _ hT'
  obtain ⟨g', e1, e2, e3⟩ := freeze_sem hi' hr hT hn
  refine ⟨g', e1, ?_, e3⟩
  rw [← Option.some.inj hTe]
  exact e2
theorem Turn.vadopt {σ : St} {k z : Nat} {t : Tk} {T' : List Tok} (ht : t.fresh = true) (hk : smallLen σ.T = some k) (hT' : snocK σ.T (.vec []) some = some T') : Turn σ (.slice [] t) ⟨σ.B, T'⟩ (.vec k z 0 0 0) := fun g w v hi hr => by
  obtain ⟨g', e1, e2, e3⟩ := vadopt_sem (z := z) hi ht hr
  rw [smallLen_spec hk] at e3
  refine ⟨g', e1, ?_, e3⟩
  have : σ.T ++ [Tok.vec []] = T' := Option.some.inj (snocK_spec _ _ _ _ hT')
  rw [← this]
  exact e2
theorem Turn.inner {σ : St} {k i c : Nat} {xs cs : List AV} {x y z0 : AV} {T1 T' : List Tok} (hT : σ.T[k]? = some (.vec xs)) (hi : xs[i]? = some (.agg cs)) (hc : cs[c]? = some x) (h : Turn σ x ⟨σ.B, T1⟩ y) (hT1 : T1[k]? = some (.vec xs)) (hT' : setTK k (.vec (xs.set i (.agg (cs.set c y)))) T1 some = some T') :
    Turn σ z0 ⟨σ.B, T'⟩ z0 := fun g w v hI hr => by
  obtain ⟨kl, hTe⟩ := setTK_spec _ _ _ _ _ hT'
  have hkg : k < g.tk.length := by rw [hI.lenT]; exact (List.getElem?_eq_some_iff.1 hT).1
  have hr0 : g.tk[k]? = some g.tk[k] := List.getElem?_eq_getElem hkg
  obtain ⟨t1, t2, t3, Vs, t4, t5, t6, t7⟩ := hI.tok k _ _ hr0 hT
  obtain ⟨V, hV, hRV⟩ := t4.get hi
  obtain ⟨vals, rfl, hl, hone⟩ := hRV
  obtain ⟨u, hu, hru⟩ := hl.get hc
  obtain ⟨g1, e1, i1, r1⟩ := h g w u hI hru
  refine ⟨g1, e1, ?_, Rep.mono e1.le _ _ hr⟩
  rw [← Option.some.inj hTe]
  refine ⟨i1.lenB, by simpa using i1.lenT, i1.ob, i1.nodup, i1.noim, fun j t r hj ht => ?_, i1.tkz, i1.tkd, i1.imlt, i1.gl⟩
  by_cases e : j = k
  · subst e
    simp only [List.getElem?_set_self kl, Option.some.injEq] at ht
    subst ht
    obtain ⟨s1, s2, s3, Ws, s4, s5, s6, s7⟩ := i1.tok j _ r hj hT1
    have hsame : ∀ (p : Addr), r.base = some p → Ws[i]? = some (.agg vals) := by
      intro p hp
      obtain ⟨r', hr', hh⟩ := e1.le.tk j _ hr0
      rw [hj] at hr'
      cases hr'
      have hrr : r = g.tk[j] := by
        rcases hh with h | h
        · exact h
        · have h1 := h.1
          have hl := t1
          have hs := s1
          omega
      subst hrr
      have hil : i < Ws.length := by rw [s4.length]; exact (List.getElem?_eq_some_iff.1 hi).1
      obtain ⟨m1, m2⟩ := (t7 p hp).2 i _ hV
      obtain ⟨n1, n2⟩ := (s7 p hp).2 i _ (List.getElem?_eq_getElem hil)
      obtain ⟨W, hW, hRW⟩ := s4.get hi
      rw [List.getElem?_eq_getElem hil] at hW
      cases hW
      obtain ⟨ws, hws, hlw, how⟩ := hRW
      rw [List.getElem?_eq_getElem hil, hws]
      rw [hws] at n1 n2
      congr 2
      apply Array.ext_getElem?
      intro q
      have hsz : ws.size = vals.size := by
        have h1 : (Value.agg ws).cells.size = (Value.agg vals).cells.size := n1.trans m1.symm
        exact h1
      by_cases hq : q < vals.size
      · have a1 := (m2 q vals[q] (by simp [Value.cells, hq])).2.1
        have a2 := (n2 q ws[q] (by simp [Value.cells, hsz ▸ hq])).2.1
        rw [a1] at a2
        rw [Array.getElem?_eq_getElem hq, Array.getElem?_eq_getElem (hsz ▸ hq)]
        exact a2.symm
      · rw [Array.getElem?_eq_none (by omega), Array.getElem?_eq_none (by omega)]
    cases hb : r.base with
    | none =>
      have := s5 hb
      subst this
      have h0 := s4.length
      have : i < xs.length := (List.getElem?_eq_some_iff.1 hi).1
      simp at h0
      omega
    | some p =>
      have hWi := hsame p hb
      obtain ⟨W, hW, hRW⟩ := s4.get hi
      rw [hWi] at hW
      cases hW
      obtain ⟨ws, hws, hlw, how⟩ := hRW
      cases hws
      have hset : Rep g1 w (.agg (cs.set c y)) (.agg vals) := ⟨vals, rfl, by have := hlw.set c r1; rwa [set_same hu] at this, how⟩
      refine ⟨by simpa using s1, s2, s3, Ws, ?_, (fun h => by rw [hb] at h; cases h), s6, fun q hq => ?_⟩
      · have := s4.set i hset
        rwa [set_same hWi] at this
      · rw [hb] at hq
        cases hq
        exact s7 p hb
  · rw [List.getElem?_set_ne (Ne.symm e)] at ht
    exact i1.tok j t r hj ht
section
variable {P : Program} {N : Nat} {D : List Deferred} {c : Code} {K : AX → Slots → St → Prop} {s : Slots} {σ : St}
theorem HCode.turn (tm : Nat) {x y : AV} {σ' : St} (hx : lk? s tm = some x) (h : Turn σ x σ' y) (k : HCode P N D c K ((tm, y) :: s) σ') : HCode P N D c K s σ := fun g w a hi hs ha hd => by
  have h1 := hs tm
  rw [lk_of hx] at h1
  obtain ⟨g1, e1, e2, e3⟩ := h g w _ hi h1
  refine wp_mono (k g1 w a e2 (fun u => ?_) ha hd) fun _ _ _ hp => hp.trans e1
  unfold lk
  cases e : Nat.beq tm u with
  | true => have := Nat.eq_of_beq_eq_true e; subst this; exact e3
  | false => exact Rep.mono e1.le _ _ (hs u)
theorem HCode.turnB (i j : Nat) {cs : List AV} {x y : AV} {T1 : List Tok} {B' : List Ob} (hB : σ.B[i]? = some (.cells cs)) (hx : cs[j]? = some x) (ht : Turn σ x ⟨σ.B, T1⟩ y) (hB' : σ.B.set i (.cells (cs.set j y)) = B') (h : HCode P N D c K s ⟨B', T1⟩) : HCode P N D c K s σ := fun g w a hi hs ha hd => by
  have hlt : i < g.bx.length := by rw [hi.lenB]; exact (List.getElem?_eq_some_iff.1 hB).1
  have hb : g.bx[i]? = some g.bx[i] := List.getElem?_eq_getElem hlt
  obtain ⟨vals, ty, q1, q2, q3⟩ := hi.ob i _ _ hb hB
  obtain ⟨u, hu, hr⟩ := q2.get hx
  obtain ⟨g1, e1, e2, e3⟩ := ht g w u hi hr
  have hI : Inv g1 ⟨B', T1⟩ w := by
    refine ⟨by rw [e2.lenB, ← hB']; simp, e2.lenT, fun i' b' ob' h1 h2 => ?_, e2.nodup, e2.noim, e2.tok, e2.tkz, e2.tkd, e2.imlt, e2.gl⟩
    by_cases e : i = i'
    · subst e
      have hb1 := e1.le.bx _ _ hb
      rw [hb1] at h1
      cases h1
      have h2' : ob' = .cells (cs.set j y) := by
        have : i < σ.B.length := (List.getElem?_eq_some_iff.1 hB).1
        rw [← hB'] at h2
        simpa [this] using h2.symm
      subst h2'
      obtain ⟨vals', ty', p1, p2, p3⟩ := e2.ob i _ _ hb1 hB
      rw [q1] at p1
      cases p1
      refine ⟨vals, ty, q1, ?_, q3⟩
      have := RepL.set j p2 e3
      rwa [set_same hu] at this
    · refine e2.ob i' b' ob' h1 ?_
      rw [← hB'] at h2
      simpa [e] using h2
  exact wp_mono (h g1 w a hI (fun u => Rep.mono e1.le _ _ (hs u)) ha hd) fun _ _ _ hp => hp.trans e1
theorem HCode.loopG {c : Code} (I : Nat → Slots → St → Prop) {n : Nat} {s0 : Slots} (hs0 : Sub s0 s) (h0 : I n s0 σ)
    (round : ∀ n s1 σ1, I n s1 σ1 → HCode P N D c (thn (fun s' σ' => ∃ m, m < n ∧ ∃ s2 nB mT, σ1.B.length ≤ nB ∧ σ1.T.length ≤ mT ∧ Sub s2 s' ∧ belowS nB mT s2 = true ∧ belowB nB mT (σ'.B.take nB) = true ∧ belowT nB mT (σ'.T.take mT) = true ∧
      I m s2 ⟨σ'.B.take nB, σ'.T.take mT⟩) K) s1 σ1) : HCode P N D (.loop c) K s σ := fun g w a hi hr ha hd => by
  refine wp_loop_rel (fun n a' w' => ∃ s1 σ1 g1, I n s1 σ1 ∧ Ext g w g1 w' ∧ Inv g1 σ1 w' ∧ SRep g1 w' s1 a'.tmps ∧ a'.tmps.size = N ∧ a'.defers = D) ?_ (n := n) ⟨s0, σ, g, h0, Ext.refl g w, hi, hs0.rep hr, ha, hd⟩
  rintro n a w1 ⟨s1, σ1, g1, hI, hx, hi, hr, ha, hd⟩
  have hb0 := hi.lenB
  have ht0 := hi.lenT
  refine wp_mono (round n s1 σ1 hI g1 w1 a hi hr ha hd) ?_
  rintro e a' w' ⟨ae, s', σ', g', e1, e2, e3, e4, e5, e6, e7⟩
  cases ae with
  | normal =>
    cases (show e = .normal from e1)
    obtain ⟨m, hm, s2, nB, mT, hnB, hmT, hs2, hbs, hbB, hbT, hI2⟩ := e7
    exact ⟨m, hm, s2, _, _, hI2, hx.trans (cutTo_ext e4 (by omega) (by omega)), cutTo_inv e5 hbB hbT, fun t => Rep.low _ _ (belowS_lk hbs t) (hs2.rep e6 t), e2, e3⟩
  | exit id => cases (show e = .exit id from e1); exact ⟨.exit id, s', σ', g', rfl, e2, e3, hx.trans e4, e5, e6, e7⟩
  | goto l => cases (show e = .goto l from e1); exact ⟨.goto l, s', σ', g', rfl, e2, e3, hx.trans e4, e5, e6, e7⟩
  | ret => cases (show e = .ret from e1); exact ⟨.ret, s', σ', g', rfl, e2, e3, hx.trans e4, e5, e6, e7⟩
  | pan x => obtain ⟨u, rfl, hu⟩ := e1; exact ⟨.pan x, s', σ', g', ⟨u, rfl, hu⟩, e2, e3, hx.trans e4, e5, e6, e7⟩
theorem AFn.plainT {f : FuncId} {args : List AV} {r : AV} (hc : r.closed = true) (ha : AV.closedL args = true) (h : AFn P f args ⟨[], []⟩ (fun e σ => ∃ v σ', e = .ret v ∧ Turn σ v σ' r)) : PFn P f args r := by
  refine ⟨h.1, ha, fun im w vals him hgl hl => ?_⟩
  have hi : Inv ⟨[], [], im⟩ ⟨[], []⟩ w := ⟨rfl, rfl, fun i b ob h => by simp at h, List.nodup_nil, fun b h => by simp at h, fun k t r h => by simp at h, fun k r h => by simp at h,
    fun k k' r r' _ h => by simp at h, him, hgl⟩
  refine (h.2 _ w vals hi hl).mono ?_
  rintro e w' ⟨g', σ', x, h1, h2, h3, v, σ2, rfl, hw⟩
  obtain ⟨u, rfl, hu⟩ := h3
  obtain ⟨g2, k1, k2, k3⟩ := hw g' w' u h2 hu
  have h1' := h1.trans k1
  obtain ⟨bx', tk', im'⟩ := g2
  refine ⟨im', ⟨⟨h1'.le.im, fun i b h => by simp at h, fun k r h => by simp at h⟩, h1'.size, h1'.os, h1'.tape, h1'.output, h1'.fr, h1'.frc, h1'.newim, fun b h => by simp at h, fun k r h => by simp at h⟩, k2.imlt, u, rfl, Rep.close r u hc k3⟩
end
end Go.Av
