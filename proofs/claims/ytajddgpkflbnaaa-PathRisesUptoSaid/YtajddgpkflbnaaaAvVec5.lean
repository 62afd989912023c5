/-
  Ghost steps: slices that may be written from here on, or never any more; calls that only look; loops that keep what they make.
-/
import Derived.Test.YtajddgpkflbnaaaAvVec4
set_option linter.unusedVariables false
namespace Go.Av
open Go
set_option linter.unusedSectionVars false
variable [Globals]

/-- What is said may be said in another way, by the ghost alone: the state changes with it. -/
def Turn (σ : St) (x : AV) (σ' : St) (y : AV) : Prop := ∀ (g : Gh) (w : World) (v : Value), Inv g σ w → Rep g w x v → ∃ g', Ext g w g' w ∧ Inv g' σ' w ∧ Rep g' w y v

theorem Turn.refl (σ : St) (x : AV) : Turn σ x σ x := fun g w v hi h => ⟨g, Ext.refl g w, hi, h⟩
theorem Turn.weak {σ : St} {x y : AV} (h : Weak x y) : Turn σ x σ y := fun g w v hi hr => ⟨g, Ext.refl g w, hi, h g w v hr⟩
theorem Turn.trans {σ σ1 σ2 : St} {x y z : AV} (h : Turn σ x σ1 y) (k : Turn σ1 y σ2 z) : Turn σ x σ2 z := fun g w v hi hr => by
  obtain ⟨g1, e1, i1, r1⟩ := h g w v hi hr
  obtain ⟨g2, e2, i2, r2⟩ := k g1 w v i1 r1
  exact ⟨g2, e1.trans e2, i2, r2⟩
/-- A slice that may be written is never written any more. -/
theorem Turn.freeze {σ : St} {k z n lo hi : Nat} {xs : List AV} {T' : List Tok} (hT : σ.T[k]? = some (.vec xs)) (hn : xs.length = n) (hT' : setTK k (.len (n + 1)) σ.T some = some T') :
    Turn σ (.vec k z n lo hi) ⟨σ.B, T'⟩ (.slice ((xs.take hi).drop lo) .no) := fun g w v hi' hr => by
  obtain ⟨kl, hTe⟩ := setTK_spec _ _ _ _ _ hT'
  obtain ⟨g', e1, e2, e3⟩ := freeze_sem hi' hr hT hn
  refine ⟨g', e1, ?_, e3⟩
  rw [← Option.some.inj hTe]
  exact e2
/-- An empty slice without room may be written. -/
theorem Turn.vadopt {σ : St} {k z : Nat} {t : Tk} {T' : List Tok} (ht : t.fresh = true) (hk : smallLen σ.T = some k) (hT' : snocK σ.T (.vec []) some = some T') : Turn σ (.slice [] t) ⟨σ.B, T'⟩ (.vec k z 0 0 0) := fun g w v hi hr => by
  obtain ⟨g', e1, e2, e3⟩ := vadopt_sem (z := z) hi ht hr
  rw [smallLen_spec hk] at e3
  refine ⟨g', e1, ?_, e3⟩
  have : σ.T ++ [Tok.vec []] = T' := Option.some.inj (snocK_spec _ _ _ _ hT')
  rw [← this]
  exact e2

/-- A cell of an element that a token holds is turned. -/
theorem Turn.inner {σ : St} {k i c : Nat} {xs cs : List AV} {x y z0 : AV} {T1 T' : List Tok} (hT : σ.T[k]? = some (.vec xs)) (hi : xs[i]? = some (.agg cs)) (hc : cs[c]? = some x) (h : Turn σ x ⟨σ.B, T1⟩ y) (hT1 : T1[k]? = some (.vec xs)) (hT' : setTK k (.vec (xs.set i (.agg (cs.set c y)))) T1 some = some T') :
    Turn σ z0 ⟨σ.B, T'⟩ z0 := fun g w v hI hr => by
  obtain ⟨kl, hTe⟩ := setTK_spec _ _ _ _ _ hT'
  have hkg : k < g.tk.length := by rw [hI.lenT]; exact (List.getElem?_eq_some_iff.1 hT).1
  have hr0 : g.tk[k]? = some g.tk[k] := List.getElem?_eq_getElem hkg
  obtain ⟨t1, t2, t3, Vs, t4, t5, t6, t7⟩ := hI.tok k _ _ hr0 hT
  obtain ⟨V, hV, hRV⟩ := t4.get hi
  obtain ⟨vals, rfl, hl, hone⟩ := hRV
  obtain ⟨u, hu, hru⟩ := hl.get hc
  obtain ⟨g1, e1, i1, r1⟩ := h g w u hI hru
  refine ⟨g1, e1, ?_, Rep.mono e1.le _ _ hr⟩
  rw [← Option.some.inj hTe]
  refine ⟨i1.lenB, by simpa using i1.lenT, i1.ob, i1.nodup, i1.noim, fun j t r hj ht => ?_, i1.tkz, i1.tkd, i1.imlt, i1.gl⟩
  by_cases e : j = k
  · subst e
    simp only [List.getElem?_set_self kl, Option.some.injEq] at ht
    subst ht
    obtain ⟨s1, s2, s3, Ws, s4, s5, s6, s7⟩ := i1.tok j _ r hj hT1
    -- the same memory is read
    have hsame : ∀ (p : Addr), r.base = some p → Ws[i]? = some (.agg vals) := by
      intro p hp
      obtain ⟨r', hr', hh⟩ := e1.le.tk j _ hr0
      rw [hj] at hr'
      cases hr'
      have hrr : r = g.tk[j] := by
        rcases hh with h | h
        · exact h
        · have h1 := h.1
          have hl := t1
          have hs := s1
          omega
      subst hrr
      have hil : i < Ws.length := by rw [s4.length]; exact (List.getElem?_eq_some_iff.1 hi).1
      obtain ⟨m1, m2⟩ := (t7 p hp).2 i _ hV
      obtain ⟨n1, n2⟩ := (s7 p hp).2 i _ (List.getElem?_eq_getElem hil)
      obtain ⟨W, hW, hRW⟩ := s4.get hi
      rw [List.getElem?_eq_getElem hil] at hW
      cases hW
      obtain ⟨ws, hws, hlw, how⟩ := hRW
      rw [List.getElem?_eq_getElem hil, hws]
      rw [hws] at n1 n2
      congr 2
      apply Array.ext_getElem?
      intro q
      have hsz : ws.size = vals.size := by
        have h1 : (Value.agg ws).cells.size = (Value.agg vals).cells.size := n1.trans m1.symm
        exact h1
      by_cases hq : q < vals.size
      · have a1 := (m2 q vals[q] (by simp [Value.cells, hq])).2.1
        have a2 := (n2 q ws[q] (by simp [Value.cells, hsz ▸ hq])).2.1
        rw [a1] at a2
        rw [Array.getElem?_eq_getElem hq, Array.getElem?_eq_getElem (hsz ▸ hq)]
        exact a2.symm
      · rw [Array.getElem?_eq_none (by omega), Array.getElem?_eq_none (by omega)]
    cases hb : r.base with
    | none =>
      have := s5 hb
      subst this
      have h0 := s4.length
      have : i < xs.length := (List.getElem?_eq_some_iff.1 hi).1
      simp at h0
      omega
    | some p =>
      have hWi := hsame p hb
      obtain ⟨W, hW, hRW⟩ := s4.get hi
      rw [hWi] at hW
      cases hW
      obtain ⟨ws, hws, hlw, how⟩ := hRW
      cases hws
      have hset : Rep g1 w (.agg (cs.set c y)) (.agg vals) := ⟨vals, rfl, by have := hlw.set c r1; rwa [set_same hu] at this, how⟩
      refine ⟨by simpa using s1, s2, s3, Ws, ?_, (fun h => by rw [hb] at h; cases h), s6, fun q hq => ?_⟩
      · have := s4.set i hset
        rwa [set_same hWi] at this
      · rw [hb] at hq
        cases hq
        exact s7 p hb
  · rw [List.getElem?_set_ne (Ne.symm e)] at ht
    exact i1.tok j t r hj ht

section
variable {P : Program} {N : Nat} {D : List Deferred} {c : Code} {K : AX → Slots → St → Prop} {s : Slots} {σ : St}

/-- Ahead of a piece of code what a slot holds is said in another way. -/
theorem HCode.turn (tm : Nat) {x y : AV} {σ' : St} (hx : lk? s tm = some x) (h : Turn σ x σ' y) (k : HCode P N D c K ((tm, y) :: s) σ') : HCode P N D c K s σ := fun g w a hi hs ha hd => by
  have h1 := hs tm
  rw [lk_of hx] at h1
  obtain ⟨g1, e1, e2, e3⟩ := h g w _ hi h1
  refine wp_mono (k g1 w a e2 (fun u => ?_) ha hd) fun _ _ _ hp => hp.trans e1
  unfold lk
  cases e : Nat.beq tm u with
  | true => have := Nat.eq_of_beq_eq_true e; subst this; exact e3
  | false => exact Rep.mono e1.le _ _ (hs u)

/-- A cell of an object is turned. -/
theorem HCode.turnB (i j : Nat) {cs : List AV} {x y : AV} {T1 : List Tok} {B' : List Ob} (hB : σ.B[i]? = some (.cells cs)) (hx : cs[j]? = some x) (ht : Turn σ x ⟨σ.B, T1⟩ y) (hB' : σ.B.set i (.cells (cs.set j y)) = B') (h : HCode P N D c K s ⟨B', T1⟩) : HCode P N D c K s σ := fun g w a hi hs ha hd => by
  have hlt : i < g.bx.length := by rw [hi.lenB]; exact (List.getElem?_eq_some_iff.1 hB).1
  have hb : g.bx[i]? = some g.bx[i] := List.getElem?_eq_getElem hlt
  obtain ⟨vals, ty, q1, q2, q3⟩ := hi.ob i _ _ hb hB
  obtain ⟨u, hu, hr⟩ := q2.get hx
  obtain ⟨g1, e1, e2, e3⟩ := ht g w u hi hr
  have hI : Inv g1 ⟨B', T1⟩ w := by
    refine ⟨by rw [e2.lenB, ← hB']; simp, e2.lenT, fun i' b' ob' h1 h2 => ?_, e2.nodup, e2.noim, e2.tok, e2.tkz, e2.tkd, e2.imlt, e2.gl⟩
    by_cases e : i = i'
    · subst e
      have hb1 := e1.le.bx _ _ hb
      rw [hb1] at h1
      cases h1
      have h2' : ob' = .cells (cs.set j y) := by
        have : i < σ.B.length := (List.getElem?_eq_some_iff.1 hB).1
        rw [← hB'] at h2
        simpa [this] using h2.symm
      subst h2'
      obtain ⟨vals', ty', p1, p2, p3⟩ := e2.ob i _ _ hb1 hB
      rw [q1] at p1
      cases p1
      refine ⟨vals, ty, q1, ?_, q3⟩
      have := RepL.set j p2 e3
      rwa [set_same hu] at this
    · refine e2.ob i' b' ob' h1 ?_
      rw [← hB'] at h2
      simpa [e] using h2
  exact wp_mono (h g1 w a hI (fun u => Rep.mono e1.le _ _ (hs u)) ha hd) fun _ _ _ hp => hp.trans e1

/-- A loop that keeps some of what its rounds make: behind a round the first nB objects and mT tokens stay. -/
theorem HCode.loopG {c : Code} (I : Nat → Slots → St → Prop) {n : Nat} {s0 : Slots} (hs0 : Sub s0 s) (h0 : I n s0 σ)
    (round : ∀ n s1 σ1, I n s1 σ1 → HCode P N D c (thn (fun s' σ' => ∃ m, m < n ∧ ∃ s2 nB mT, σ1.B.length ≤ nB ∧ σ1.T.length ≤ mT ∧ Sub s2 s' ∧ belowS nB mT s2 = true ∧ belowB nB mT (σ'.B.take nB) = true ∧ belowT nB mT (σ'.T.take mT) = true ∧
      I m s2 ⟨σ'.B.take nB, σ'.T.take mT⟩) K) s1 σ1) : HCode P N D (.loop c) K s σ := fun g w a hi hr ha hd => by
  refine wp_loop_rel (fun n a' w' => ∃ s1 σ1 g1, I n s1 σ1 ∧ Ext g w g1 w' ∧ Inv g1 σ1 w' ∧ SRep g1 w' s1 a'.tmps ∧ a'.tmps.size = N ∧ a'.defers = D) ?_ (n := n) ⟨s0, σ, g, h0, Ext.refl g w, hi, hs0.rep hr, ha, hd⟩
  rintro n a w1 ⟨s1, σ1, g1, hI, hx, hi, hr, ha, hd⟩
  have hb0 := hi.lenB
  have ht0 := hi.lenT
  refine wp_mono (round n s1 σ1 hI g1 w1 a hi hr ha hd) ?_
  rintro e a' w' ⟨ae, s', σ', g', e1, e2, e3, e4, e5, e6, e7⟩
  cases ae with
  | normal =>
    cases (show e = .normal from e1)
    obtain ⟨m, hm, s2, nB, mT, hnB, hmT, hs2, hbs, hbB, hbT, hI2⟩ := e7
    exact ⟨m, hm, s2, _, _, hI2, hx.trans (cutTo_ext e4 (by omega) (by omega)), cutTo_inv e5 hbB hbT, fun t => Rep.low _ _ (belowS_lk hbs t) (hs2.rep e6 t), e2, e3⟩
  | exit id => cases (show e = .exit id from e1); exact ⟨.exit id, s', σ', g', rfl, e2, e3, hx.trans e4, e5, e6, e7⟩
  | goto l => cases (show e = .goto l from e1); exact ⟨.goto l, s', σ', g', rfl, e2, e3, hx.trans e4, e5, e6, e7⟩
  | ret => cases (show e = .ret from e1); exact ⟨.ret, s', σ', g', rfl, e2, e3, hx.trans e4, e5, e6, e7⟩
  | pan x => obtain ⟨u, rfl, hu⟩ := e1; exact ⟨.pan x, s', σ', g', ⟨u, rfl, hu⟩, e2, e3, hx.trans e4, e5, e6, e7⟩

/-- Plain data in, plain data out, when what is handed back is turned first. -/
theorem AFn.plainT {f : FuncId} {args : List AV} {r : AV} (hc : r.closed = true) (ha : AV.closedL args = true) (h : AFn P f args ⟨[], []⟩ (fun e σ => ∃ v σ', e = .ret v ∧ Turn σ v σ' r)) : PFn P f args r := by
  refine ⟨h.1, ha, fun im w vals him hgl hl => ?_⟩
  have hi : Inv ⟨[], [], im⟩ ⟨[], []⟩ w := ⟨rfl, rfl, fun i b ob h => by simp at h, List.nodup_nil, fun b h => by simp at h, fun k t r h => by simp at h, fun k r h => by simp at h,
    fun k k' r r' _ h => by simp at h, him, hgl⟩
  refine (h.2 _ w vals hi hl).mono ?_
  rintro e w' ⟨g', σ', x, h1, h2, h3, v, σ2, rfl, hw⟩
  obtain ⟨u, rfl, hu⟩ := h3
  obtain ⟨g2, k1, k2, k3⟩ := hw g' w' u h2 hu
  have h1' := h1.trans k1
  obtain ⟨bx', tk', im'⟩ := g2
  refine ⟨im', ⟨⟨h1'.le.im, fun i b h => by simp at h, fun k r h => by simp at h⟩, h1'.size, h1'.os, h1'.tape, h1'.output, h1'.fr, h1'.frc, h1'.newim, fun b h => by simp at h, fun k r h => by simp at h⟩, k2.imlt, u, rfl, Rep.close r u hc k3⟩

theorem Fin.turn1 {t : Nat} {s : Slots} {σ σ' : St} {v r : AV} (h : lk? s t = some v) (hw : Turn σ v σ' r) : ∃ v' σ2, AEnd.ret (resAV s [t]) = .ret v' ∧ Turn σ v' σ2 r :=
  ⟨_, σ', rfl, by rw [show resAV s [t] = v from lk_of h]; exact hw⟩
end
end Go.Av
