/-
  Slices that are written: the rules of operations.
-/
import Derived.Test.YtajddgpkflbnaaaAvVec
set_option linter.unusedVariables false
namespace Go.Av
open Go
set_option linter.unusedSectionVars false
variable [Globals]

section rules
variable {P : Program} [Lay P] {all : Array Oper} {draw : Bool} {K : AX → Slots → St → Prop} {rest : List Oper} {acc : List Tag} {s : Slots} {σ : St}
variable {d : Tmp} {ty : TypeId} {pos : String} {af : Array Edge}

theorem set_self {α : Type} {l : List α} {k : Nat} {x : α} (h : l[k]? = some x) : l.set k x = l := by
  apply List.ext_getElem?
  intro i
  by_cases e : i = k
  · subst e; rw [List.getElem?_set_self (List.getElem?_eq_some_iff.1 h).1, h]
  · rw [List.getElem?_set_ne (Ne.symm e)]

/-- What append does to a slice that may be written. -/
theorem vappend_sem {T ty : TypeId} {xs ys : List AV} {k z n : Nat} {ti te : TI} (hT : ty? P T = some ti) (hk : ti.kind = .slice) (hE : ty? P ti.elem = some te) (hzz : te.size = z) (hz0 : 0 < z)
    {g : Gh} {w : World} (hI : Inv g σ w) {ux uy : Value} (h1 : Rep g w (.vec k z n 0 n) ux) {Ys : List Value} (hsrc : Src g w te.size ys uy Ys) (hTk : σ.T[k]? = some (.vec xs)) (hn : xs.length = n)
    (hb : (n + ys.length) * te.bytes ≤ 140737488355328) (hb' : n + ys.length ≤ 4611686018427387904) :
    ∃ v w' g', (Builtin.append_ #[T, T] ty #[ux, uy]).run P w = .ok v w' ∧ Ext g w g' w' ∧ Inv g' ⟨σ.B, σ.T.set k (.vec (xs ++ ys))⟩ w' ∧ Rep g' w' (.vec k z (n + ys.length) 0 (n + ys.length)) v := by
  have hyl : Ys.length = ys.length := hsrc.rep.length
  have kl : k < σ.T.length := (List.getElem?_eq_some_iff.1 hTk).1
  obtain ⟨r, Us, hv⟩ := vec_at hI h1 hTk hn
  have h1' := h1
  obtain ⟨a0, cap, rfl, _, _, c3, c4, c5, r0, hr0, hz, hle, h6⟩ := h1
  have : r0 = r := Option.some.inj (hr0.symm.trans hv.hr)
  subst this
  obtain ⟨l1, l2, l3⟩ := h6 (by rw [hv.n, hn])
  simp only [Nat.sub_zero, Nat.zero_mul, Nat.add_zero] at *
  have hul : Us.length = n := by rw [← hn]; exact hv.len
  obtain ⟨info, dd, z0, t1, t2, t3, t4, _⟩ := (ty_ok hT).ex
  have hd : ∃ e, dd = .slice e := by rw [hk] at t3; cases dd <;> first | exact ⟨_, rfl⟩ | cases t3
  obtain ⟨el, rfl⟩ := hd
  have hel : el = ti.elem := t4
  subst hel
  obtain ⟨ie, de, ze, u1, u2, u3, u4, u5, u6, u7, u8, u9, u10, u11, u12, u13⟩ := (ty_ok hE).ex
  have hus := hv.size
  have hys : ∀ V ∈ Ys, V.cells.size = z := fun V hV => by rw [← hzz]; exact hsrc.size V hV
  have hall : ∀ V ∈ Us ++ Ys, V.cells.size = z := fun V hV => (List.mem_append.1 hV).elim (hus V) (hys V)
  have hlen : (xs ++ ys).length = n + ys.length := by rw [List.length_append, hn]
  by_cases hm : Ys.length = 0
  · have hYs := List.eq_nil_of_length_eq_zero hm
    subst hYs
    have hys0 : ys = [] := List.eq_nil_of_length_eq_zero (by rw [← hyl]; rfl)
    subst hys0
    refine ⟨.slice a0 n cap, w, g, ?_, Ext.refl g w, ?_, h1'⟩
    · rcases hsrc.form with ⟨b, c, rfl, _⟩ | ⟨rfl, _⟩
      · have hfc : (Builtin.firstCells ie.size 0 (.slice (some b) 0 c)).run P w = .ok #[] w := by simp [Builtin.firstCells, loadCells, loadCellsFrom]
        cases a0 <;> simp [Builtin.append_, run_underlying t2, sizeOf, typeInfo, u1, Builtin.lenOf, c3, hfc, storeCells]
      · cases a0 <;> simp [Builtin.append_, run_underlying t2, sizeOf, typeInfo, u1, Builtin.lenOf, c3, Builtin.firstCells, storeCells]
    · rw [List.append_nil, set_self hTk]; exact hI
  · have hm0 : 0 < Ys.length := by omega
    rcases hsrc.form with ⟨sb, sc, rfl, hscell⟩ | ⟨_, e⟩
    case inr => rw [e] at hm0; simp at hm0
    have hfl : (flat Ys).length = Ys.length * ie.size := by rw [u6, hzz]; exact flat_length hys
    have hful : (flat Us).length = n * ie.size := by rw [u6, hzz, flat_length hus, hul]
    have hmax : n + Ys.length ≤ maxLen := by unfold maxLen; omega
    have hfit : ∀ old, old < n + Ys.length → Builtin.nextslicecap (n + Ys.length) old * ie.bytes ≤ 281474976710656 := fun old h => growslice_fits h (by rw [hyl, u7]; exact hb)
    have hzc : ze.cells.size = z := u10.trans hzz
    -- growth
    have grow : ∀ (old : Nat) (hold1 : ∀ v ∈ flat Us, v.oneCell' = true), old < n + Ys.length → ∃ g',
        Ext g w g' (w.drew.alloc (.cells ((flat Us).toArray ++ (flat Ys).toArray ++ Builtin.zeroCells ze.cells (grownCap w (n + Ys.length) old ti.elem - (n + Ys.length))) ti.elem)) ∧
        Inv g' ⟨σ.B, σ.T.set k (.vec (xs ++ ys))⟩ (w.drew.alloc (.cells ((flat Us).toArray ++ (flat Ys).toArray ++ Builtin.zeroCells ze.cells (grownCap w (n + Ys.length) old ti.elem - (n + Ys.length))) ti.elem)) ∧
        Rep g' (w.drew.alloc (.cells ((flat Us).toArray ++ (flat Ys).toArray ++ Builtin.zeroCells ze.cells (grownCap w (n + Ys.length) old ti.elem - (n + Ys.length))) ti.elem)) (.vec k z (n + ys.length) 0 (n + ys.length))
          (.slice (some ⟨w.heap.size, 0, none⟩) (n + Ys.length) (grownCap w (n + Ys.length) old ti.elem)) := by
      intro old hold1 hold
      have hge := grownCap_ge w (n + Ys.length) old ti.elem
      have hle2 := grownCap_le_maxLen w (n + Ys.length) old ti.elem hmax
      have hsize : grownCap w (n + Ys.length) old ti.elem * z = ((flat Us).toArray ++ (flat Ys).toArray ++ Builtin.zeroCells ze.cells (grownCap w (n + Ys.length) old ti.elem - (n + Ys.length))).size := by
        simp only [Array.size_append, List.size_toArray, size_zeroCells, hzc, flat_length hus, flat_length hys, ← Nat.add_mul, hul]
        congr 1
        omega
      let cells := (flat Us).toArray ++ (flat Ys).toArray ++ Builtin.zeroCells ze.cells (grownCap w (n + Ys.length) old ti.elem - (n + Ys.length))
      have hI' := hI.drew (w.drawn + 1)
      have hzone : ∀ b o, (⟨some ⟨w.heap.size, 0, none⟩, n + ys.length, grownCap w (n + Ys.length) old ti.elem, z, 0⟩ : Rec).zone b o → b = w.heap.size ∧ o < cells.size := by
        rintro b o ⟨p, hp, rfl, e1, e2⟩
        cases hp
        refine ⟨rfl, ?_⟩
        show o < cells.size
        rw [← hsize]
        simpa using e2
      obtain ⟨g', e1, e2, e3, _⟩ := retk (r' := ⟨some ⟨w.heap.size, 0, none⟩, n + ys.length, grownCap w (n + Ys.length) old ti.elem, z, 0⟩) (t' := .vec (xs ++ ys)) (J := fun _ _ => False) hI' (w' := pushW w.drew (.cells cells ti.elem)) (.inl ⟨kl, rfl⟩)
        (by rw [push_size]; exact Nat.le_succ _) rfl rfl rfl (fun b hb _ => push_old w.drew _ hb) (fun b o hb _ => (cell_old (push_old w.drew _ hb)).1) (fun b o hb => (cell_old (push_old w.drew _ hb)).2) (fun _ _ h => h.elim)
        (fun b o ho => by
          obtain ⟨rfl, h2⟩ := hzone b o ho
          refine ⟨?_, new_data_frozen w.drew cells ti.elem o, .inl (Nat.le_refl _)⟩
          have := new_data_cell w.drew cells ti.elem o
          exact ⟨cells[o], this.trans (Array.getElem?_eq_getElem h2)⟩)
        (fun r1 hr1 => by
          have : r1 = r0 := Option.some.inj (hr1.symm.trans hv.hr)
          subst this
          exact .inr ⟨by rw [hv.n, hn]; show n < n + ys.length; omega, by rw [hv.sz]⟩)
        (fun g' hle => ⟨hlen.symm, rfl, (by show n + ys.length ≤ grownCap w (n + Ys.length) old ti.elem; omega), Us ++ Ys, (RepL.mono hle _ _ (RepL.mono (Ext.drew g w (w.drawn + 1)).le _ _ hv.rep)).append (RepL.mono hle _ _ (RepL.mono (Ext.drew g w (w.drawn + 1)).le _ _ hsrc.rep)), (fun e => by cases e), hall, fun p hp => by
          cases hp
          refine ⟨.inl rfl, inMemE_of_flat hall fun j u hj => ?_⟩
          refine ⟨trivial, ?_, ?_⟩
          · show (pushW w.drew (.cells cells ti.elem)).cell? ⟨w.heap.size, 0 + j, none⟩ = some u
            rw [Nat.zero_add]
            refine (new_data_cell w.drew cells ti.elem j).trans ?_
            rw [flat_append] at hj
            have hlt := (List.getElem?_eq_some_iff.1 hj).1
            rw [← Array.getElem?_toList, Array.toList_append, Array.toList_append, List.getElem?_append_left (by simpa using hlt)]
            simpa using hj
          · have hm := List.mem_of_getElem? hj
            rw [flat_append] at hm
            exact (List.mem_append.1 hm).elim (hold1 u) (hsrc.one u)⟩)
      refine ⟨g', (Ext.drew g w _).trans e1, e2, some ⟨w.heap.size, 0, none⟩, grownCap w (n + Ys.length) old ti.elem, by rw [hyl]; rfl, Nat.zero_le _, Nat.le_refl _, by omega, hle2, (fun _ => ⟨_, _, rfl⟩), _, e3, rfl, Nat.le_refl _, fun _ => ⟨rfl, rfl, fun _ => ⟨_, rfl, rfl, by simp⟩⟩⟩
    cases a0 with
    | none =>
      have hc0 : cap = 0 := by
        rcases Nat.eq_zero_or_pos cap with h | h
        · exact h
        · obtain ⟨b, o, hh⟩ := c5 h; cases hh
      subst hc0
      have hn0 : n = 0 := by omega
      subst hn0
      have hU0 := List.eq_nil_of_length_eq_zero hul
      subst hU0
      obtain ⟨g', n1, n2, n3⟩ := grow 0 (by simp [flat]) (by simpa using hm0)
      have hrun := run_append_nil (P := P) w T ty ti.elem ie ze t2 u1 u8 sb Ys.length sc (flat Ys) hfl (fun j v hj => (hscell j v hj).1) hm0 (by have := hmax; unfold maxLen at this; simp at this; omega) (by have := hfit 0 (by simpa using hm0); rw [Nat.zero_add, nextslicecap_zero hm0] at this; exact this)
      refine ⟨_, _, g', hrun, ?_, ?_, ?_⟩
      · simpa [flat] using n1
      · simpa [flat] using n2
      · simpa [flat] using n3
    | some p =>
      by_cases hcap : 0 < cap
      case neg =>
        have hc0 : cap = 0 := by omega
        subst hc0
        have hn0 : n = 0 := by omega
        subst hn0
        have hU0 := List.eq_nil_of_length_eq_zero hul
        subst hU0
        obtain ⟨g', n1, n2, n3⟩ := grow 0 (by simp [flat]) (by simpa using hm0)
        have hrun := run_append_grow (P := P) w T ty ti.elem ie ze t2 u1 u8 p 0 0 (flat []) hful (fun j v hj => by simp [flat] at hj) sb Ys.length sc (flat Ys) hfl (fun j v hj => (hscell j v hj).1) (by simpa using hm0) (by have := hmax; unfold maxLen at this; omega) (hfit 0 (by simpa using hm0))
        exact ⟨_, _, g', hrun, n1, n2, n3⟩
      obtain ⟨q, hq, hqs, hpq⟩ := l3 hcap
      obtain ⟨qb, qo, qs⟩ := q
      cases (show qs = none from hqs)
      cases hpq
      have hmem := (hv.mem _ hq).2
      have hfU : ∀ (j : Nat) (v : Value), (flat Us)[j]? = some v → w.cell? ((⟨qb, qo, none⟩ : Addr).add j) = some v ∧ v.oneCell' = true := fun j v hj => by
        obtain ⟨m1, m2, m3⟩ := hmem.flat hj
        rw [addr_add]
        exact ⟨m2, m3⟩
      have hone : ∀ v ∈ flat Us, v.oneCell' = true := fun v hv => by
        obtain ⟨j, hj⟩ := List.getElem?_of_mem hv
        exact (hfU j v hj).2
      by_cases hroom : n + Ys.length ≤ cap
      · have hfc : (Builtin.firstCells ie.size Ys.length (.slice (some sb) Ys.length sc)).run P w = .ok (flat Ys).toArray w := run_firstCells_some (P := P) w ie.size Ys.length sb Ys.length sc (flat Ys) hfl (fun j v hj => (hscell j v hj).1)
        have hbnd : n * z + (flat Ys).length ≤ r0.cap * z := by
          rw [hfl, u6, hzz, ← Nat.add_mul, l2]
          exact Nat.mul_le_mul_right _ hroom
        have hpos : 0 < (flat Ys).length := by rw [hfl, u6, hzz]; exact Nat.mul_pos hm0 hz0
        have hzr : ∀ j, j < (flat Ys).length → r0.zone qb (qo + n * z + j) := fun j hj => by rw [Nat.add_assoc]; exact hv.zone hq (by omega)
        obtain ⟨w', hst, hs⟩ := run_stored (P := P) qb (flat Ys) 0 (qo + n * z) w (fun j hj => (hI.tkz k r0 hv.hr qb _ (by simpa using hzr j hj)).2.2.1) (fun j hj => (hI.tkz k r0 hv.hr qb _ (by simpa using hzr j hj)).2.2.2) hsrc.one
        obtain ⟨g', n1, n2, n3⟩ := vec_write hI hv hTk hq rfl hs hbnd hpos (ys := xs ++ ys) (Us := Us ++ Ys) (hv.rep.append hsrc.rep) hall (by rw [hlen, hn]; omega) (.inr (by rw [hlen, hn]; omega)) (by rw [hlen]; omega)
          (inMemE_of_flat hall fun j u hj => by
            rw [flat_append] at hj
            refine ⟨trivial, ?_⟩
            show w'.cell? ⟨qb, qo + j, none⟩ = some u ∧ u.oneCell' = true
            by_cases hjl : j < (flat Us).length
            · rw [List.getElem?_append_left hjl] at hj
              obtain ⟨m1, m2⟩ := hfU j u hj
              rw [addr_add] at m1
              rw [hful, u6, hzz] at hjl
              exact ⟨(hs.there (qo + j) (.inl (by omega))).trans m1, m2⟩
            · rw [List.getElem?_append_right (by omega)] at hj
              have hj' := hs.here (j - (flat Us).length) u hj
              have hful' : (flat Us).length = n * z := by rw [hful, u6, hzz]
              have hidx : qo + n * z + 0 + (j - (flat Us).length) = qo + j := by rw [← hful']; omega
              rw [hidx] at hj'
              exact ⟨hj', hsrc.one u (List.mem_of_getElem? hj)⟩)
        refine ⟨.slice (some ⟨qb, qo, none⟩) (n + Ys.length) cap, w', g', ?_, n1, n2, some ⟨qb, qo, none⟩, cap, by rw [hyl]; rfl, Nat.zero_le _, Nat.le_refl _, by omega, c4, (fun _ => ⟨_, _, rfl⟩), _, n3, hz, by rw [hlen]; exact Nat.le_refl _, fun _ => ⟨hv.lo, l2, fun _ => ⟨_, hq, rfl, by simp⟩⟩⟩
        have hadd : (⟨qb, qo, none⟩ : Addr).add (n * ie.size) = ⟨qb, qo + n * z, none⟩ := by rw [addr_add, u6, hzz]
        simp [Builtin.append_, run_underlying t2, sizeOf, typeInfo, u1, Builtin.lenOf, hroom, hfc, hadd, hst]
      · obtain ⟨g', n1, n2, n3⟩ := grow cap hone (by omega)
        have hrun := run_append_grow (P := P) w T ty ti.elem ie ze t2 u1 u8 ⟨qb, qo, none⟩ n cap (flat Us) hful (fun j v hj => (hfU j v hj).1) sb Ys.length sc (flat Ys) hfl (fun j v hj => (hscell j v hj).1) (by omega) (by have := hmax; unfold maxLen at this; omega) (hfit cap (by omega))
        exact ⟨_, _, g', hrun, n1, n2, n3⟩

/-- append to a slice that may be written. -/
theorem A.vappend {T : TypeId} {x y : Operand} {xs ys : List AV} {t : Tk} {k z n m : Nat} {ti te : TI} {T' : List Tok} (hT : ty? P T = some ti) (hk : ti.kind = .slice) (hE : ty? P ti.elem = some te) (hz : Nat.beq te.size z = true) (hz0 : Nat.blt 0 z = true)
    (hx : ev? s x = some (.vec k z n 0 n)) (hy : ev? s y = some (.slice ys t)) (hTk : σ.T[k]? = some (.vec xs)) (hn : xs.length = n) (hf : fitsAll te.agg te.size ys = true) (hm : n + ys.length = m)
    (hb : m * te.bytes ≤ 140737488355328) (hb' : m ≤ 4611686018427387904) (hT' : setTK k (.vec (xs ++ ys)) σ.T some = some T')
    (kk : AOps P all draw K rest (.tk :: acc) ((d, .vec k z m 0 m) :: s) ⟨σ.B, T'⟩) : AOps P all draw K (⟨some d, .call ⟨.builtin .append, #[x, y], #[T, T]⟩, ty, pos, af, none⟩ :: rest) acc s σ :=
  A.step (t := .tk) (σ' := ⟨σ.B, T'⟩) rfl ⟨rfl, fun B => by
    intro g w a next Q hI ho hn'
    subst hm
    have h1 := op1 hx (by simp [Op.operands, Call.operands]) ho
    have h2 := op1 hy (by simp [Op.operands, Call.operands]) ho
    obtain ⟨Ys, hsrc⟩ := src_of h2 hf
    obtain ⟨kl, hTe⟩ := setTK_spec _ _ _ _ _ hT'
    obtain ⟨v, w', g', e1, e2, e3, e4⟩ := vappend_sem (σ := ⟨B, σ.T⟩) (ty := ty) hT hk hE (Nat.eq_of_beq_eq_true hz) (Nat.le_of_ble_eq_true hz0) hI h1 hsrc hTk hn hb hb'
    unfold Oper.wp
    rw [run_append_op e1]
    refine hn' v w' g' e2 ?_ e4
    rw [show (⟨σ.B, T'⟩ : St).T = T' from rfl, ← Option.some.inj hTe]
    exact e3⟩ kk

/-- append to a slice that is empty, and without room: it may be written. -/
theorem A.vappend_new {T : TypeId} {x y : Operand} {ys : List AV} {t t' : Tk} {k m : Nat} {ti te : TI} {T' : List Tok} (hT : ty? P T = some ti) (hk : ti.kind = .slice) (hE : ty? P ti.elem = some te) (hz0 : Nat.blt 0 te.size = true)
    (hx : ev? s x = some (.slice [] t')) (ht : t'.fresh = true) (hy : ev? s y = some (.slice ys t)) (hkk : smallLen σ.T = some k) (hf : fitsAll te.agg te.size ys = true) (hm : ys.length = m)
    (hb : m * te.bytes ≤ 140737488355328) (hb' : m ≤ 4611686018427387904) (hT' : snocK σ.T (.vec ys) some = some T')
    (kk : AOps P all draw K rest (.tk :: acc) ((d, .vec k te.size m 0 m) :: s) ⟨σ.B, T'⟩) : AOps P all draw K (⟨some d, .call ⟨.builtin .append, #[x, y], #[T, T]⟩, ty, pos, af, none⟩ :: rest) acc s σ :=
  A.step (t := .tk) (σ' := ⟨σ.B, T'⟩) rfl ⟨rfl, fun B => by
    intro g w a next Q hI ho hn'
    subst hm
    have h1 := op1 hx (by simp [Op.operands, Call.operands]) ho
    have h2 := op1 hy (by simp [Op.operands, Call.operands]) ho
    obtain ⟨g1, e1, e2, e3⟩ := vadopt_sem (z := te.size) hI ht h1
    obtain ⟨Ys, hsrc⟩ := src_of (Rep.mono e1.le _ _ h2) hf
    have hkl : σ.T.length = k := smallLen_spec hkk
    have hTe : σ.T ++ [Tok.vec ys] = T' := Option.some.inj (snocK_spec _ _ _ _ hT')
    obtain ⟨v, w', g', f1, f2, f3, f4⟩ := vappend_sem (σ := ⟨B, σ.T ++ [.vec []]⟩) (ty := ty) (n := 0) (xs := []) hT hk hE rfl (Nat.le_of_ble_eq_true hz0) e2 e3 hsrc (by simp) rfl (by simpa using hb) (by simpa using hb')
    unfold Oper.wp
    rw [run_append_op f1]
    refine hn' v w' g' (e1.trans f2) ?_ (by rw [← hkl]; simpa using f4)
    have : (σ.T ++ [Tok.vec []]).set σ.T.length (.vec ([] ++ ys)) = T' := by rw [← hTe]; simp
    rw [← this]
    exact f3⟩ kk
end rules
end Go.Av
