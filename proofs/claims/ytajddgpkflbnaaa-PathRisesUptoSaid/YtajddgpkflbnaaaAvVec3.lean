/-
  Slices that are written: elements, parts, clear; ghost steps.
-/
import Derived.Test.YtajddgpkflbnaaaAvVec2
set_option linter.unusedVariables false
namespace Go.Av
open Go
set_option linter.unusedSectionVars false
variable [Globals]

theorem flat_take {sz : Nat} : ∀ {Vs : List Value} (i : Nat), (∀ V ∈ Vs, V.cells.size = sz) → flat (Vs.take i) = (flat Vs).take (i * sz)
  | [], i, _ => by simp [flat]
  | V :: Vs, 0, h => by simp [flat]
  | V :: Vs, i + 1, h => by
    have hV := h V (by simp)
    rw [List.take_succ_cons, flat_cons, flat_cons, flat_take i (fun V hV => h V (by simp [hV])), Nat.succ_mul, Nat.add_comm, List.take_append, List.take_of_length_le (l := V.cells.toList) (by rw [Array.length_toList]; omega), Array.length_toList, hV, Nat.add_sub_cancel_left]
theorem flat_drop {sz : Nat} : ∀ {Vs : List Value} (i : Nat), (∀ V ∈ Vs, V.cells.size = sz) → flat (Vs.drop i) = (flat Vs).drop (i * sz)
  | [], i, _ => by simp [flat]
  | V :: Vs, 0, h => by simp
  | V :: Vs, i + 1, h => by
    have hV := h V (by simp)
    rw [List.drop_succ_cons, flat_cons, flat_drop i (fun V hV => h V (by simp [hV])), Nat.succ_mul, Nat.add_comm, List.drop_append, List.drop_of_length_le (l := V.cells.toList) (by rw [Array.length_toList]; omega), Array.length_toList, hV, Nat.add_sub_cancel_left, List.nil_append]
theorem flat_set {sz : Nat} {Vs : List Value} {j : Nat} {V' : Value} (h : ∀ V ∈ Vs, V.cells.size = sz) (hj : j < Vs.length) : flat (Vs.set j V') = (flat Vs).take (j * sz) ++ V'.cells.toList ++ (flat Vs).drop ((j + 1) * sz) := by
  rw [List.set_eq_take_append_cons_drop, if_pos hj, flat_append, flat_cons, flat_take j h, flat_drop (j + 1) h, List.append_assoc]
theorem flat_replicate (z : Value) (n : Nat) : flat (List.replicate n z) = (Builtin.zeroCells z.cells n).toList := by
    apply List.ext_getElem?
    intro k
    have hs : ∀ V ∈ List.replicate n z, V.cells.size = z.cells.size := fun V hV => by rw [(List.mem_replicate.1 hV).2]
    have hl : (flat (List.replicate n z)).length = n * z.cells.size := by rw [flat_length hs, List.length_replicate]
    by_cases hk : k < n * z.cells.size
    · have hpos : 0 < z.cells.size := by
        rcases Nat.eq_zero_or_pos z.cells.size with e | e
        · rw [e] at hk; simp at hk
        · exact e
      have hi : k / z.cells.size < n := Nat.div_lt_of_lt_mul (by rwa [Nat.mul_comm])
      have he : k = k / z.cells.size * z.cells.size + k % z.cells.size := by have := Nat.div_add_mod k z.cells.size; rw [Nat.mul_comm] at this; exact this.symm
      have hg := flat_get (Vs := List.replicate n z) (i := k / z.cells.size) (j := k % z.cells.size) (V := z) hs (by simp [hi]) (Nat.mod_lt _ hpos)
      rw [← he] at hg
      rw [hg]
      have hm : k % z.cells.size < z.cells.size := Nat.mod_lt _ hpos
      simp only [Builtin.zeroCells, Array.toList_map, List.getElem?_map, Array.toList_range]
      rw [List.getElem?_range hk]
      simp [hm]
    · rw [List.getElem?_eq_none (by omega), List.getElem?_eq_none]
      simp [Builtin.zeroCells]; omega

section
variable {P : Program} {g : Gh} {σ : St} {w : World}

theorem VecAt.flat_len {k z : Nat} {xs : List AV} {r : Rec} {Vs : List Value} (h : VecAt g w k z xs r Vs) : (flat Vs).length = xs.length * z := by rw [flat_length h.size, h.len]

/-- Some cells of such a slice are stored. -/
theorem vec_put (hI : Inv g σ w) {k z : Nat} {xs ys : List AV} {r : Rec} {Vs Us : List Value} (h : VecAt g w k z xs r Vs) (hT : σ.T[k]? = some (.vec xs)) {p : Addr} (hp : r.base = some p) (hps : p.spot = none) {at_ : Nat} {cs : List Value}
    (hfl : flat Us = (flat Vs).take at_ ++ cs ++ (flat Vs).drop (at_ + cs.length)) (hat0 : at_ ≤ (flat Vs).length) (hat : at_ + cs.length ≤ r.cap * z) (hcs : 0 < cs.length) (hone : ∀ v ∈ cs, v.oneCell' = true) (hU : RepL g w ys Us) (hUs : ∀ V ∈ Us, V.cells.size = z) (hlen : xs.length ≤ ys.length) (hcap : ys.length ≤ r.cap) :
    ∃ w' g', (storeCells ⟨p.block, p.off + at_, none⟩ cs).run P w = .ok () w' ∧ Ext g w g' w' ∧ Inv g' ⟨σ.B, σ.T.set k (.vec ys)⟩ w' ∧ g'.tk[k]? = some { r with n := ys.length } := by
  have hzr : ∀ j, j < cs.length → r.zone p.block (p.off + at_ + j) := fun j hj => by rw [Nat.add_assoc]; exact h.zone hp (by omega)
  obtain ⟨w', hst, hs⟩ := run_stored (P := P) p.block cs 0 (p.off + at_) w (fun j hj => (hI.tkz k r h.hr p.block _ (by simpa using hzr j hj)).2.2.1) (fun j hj => (hI.tkz k r h.hr p.block _ (by simpa using hzr j hj)).2.2.2) hone
  obtain ⟨g', n1, n2, n3⟩ := vec_write hI h hT hp hps hs hat hcs hU hUs hlen (by omega) hcap
    (inMemE_of_flat hUs fun j u hj => by
      refine ⟨trivial, ?_⟩
      rw [hfl] at hj
      by_cases h1 : j < at_
      · rw [List.append_assoc, List.getElem?_append_left (by simp; omega), List.getElem?_take_of_lt h1] at hj
        obtain ⟨_, m2, m3⟩ := (h.mem p hp).2.flat hj
        exact ⟨(hs.there (p.off + j) (.inl (by omega))).trans m2, m3⟩
      · by_cases h2 : j < at_ + cs.length
        · rw [List.getElem?_append_left (by simp; omega), List.getElem?_append_right (by simp; omega)] at hj
          have hta : ((flat Vs).take at_).length = at_ := by simp; omega
          rw [hta] at hj
          have := hs.here (j - at_) u hj
          rw [show p.off + at_ + 0 + (j - at_) = p.off + j by omega] at this
          exact ⟨this, hone u (List.mem_of_getElem? hj)⟩
        · rw [List.getElem?_append_right (by simp; omega), List.getElem?_drop] at hj
          have hta : ((flat Vs).take at_ ++ cs).length = at_ + cs.length := by simp; omega
          rw [hta, show at_ + cs.length + (j - (at_ + cs.length)) = j by omega] at hj
          obtain ⟨_, m2, m3⟩ := (h.mem p hp).2.flat hj
          exact ⟨(hs.there (p.off + j) (.inr (by omega))).trans m2, m3⟩)
  exact ⟨w', g', hst, n1, n2, n3⟩

/-- A load out of cells that are known. -/
theorem load_cells [Lay P] {T : TypeId} {ti : TI} (hT : ty? P T = some ti) {b o off : Nat} {cs : List AV} {vals : List Value} {v : AV} (hl : RepL g w cs vals) (hone : ∀ u ∈ vals, u.oneCell' = true)
    (hcell : ∀ (j : Nat) (u : Value), vals[j]? = some u → w.cell? ⟨b, o + j, none⟩ = some u) (hv : cut ti.agg ti.size off cs = some v) : ∃ V, Rep g w v V ∧ (loadVar T ⟨b, o + off, none⟩).run P w = .ok V w := by
  obtain ⟨V, hV, h2, h3, h4⟩ : ∃ V, Rep g w v V ∧ (∀ (j : Nat) (u : Value), V.cells[j]? = some u → w.cell? ⟨b, o + off + j, none⟩ = some u) ∧ (ti.agg = true → ∃ vs, V = .agg vs ∧ vs.size = ti.size) ∧ (ti.agg = false → V.cells = #[V]) := by
    rcases cut_spec hv with ⟨ha, _, rfl, hlen⟩ | ⟨ha, hg⟩
    · have hl2 := (hl.drop off).take ti.size
      have hsz : ((vals.drop off).take ti.size).length = ti.size := by
        have := (hl.drop off).length
        rw [List.length_take, this]
        omega
      refine ⟨.agg ((vals.drop off).take ti.size).toArray, ⟨_, rfl, by simpa using hl2, fun u hu => ?_⟩, fun j u hj => ?_, fun _ => ⟨_, rfl, by simpa using hsz⟩, fun e => ?_⟩
      · exact hone u (List.mem_of_mem_drop (List.mem_of_mem_take (i := ti.size) (l := vals.drop off) (by simpa using hu)))
      · rw [Nat.add_assoc]
        refine hcell _ u ?_
        simp only [Value.cells, List.getElem?_toArray, List.getElem?_take, List.getElem?_drop] at hj
        split at hj
        · exact hj
        · cases hj
      · rw [ha] at e; cases e
    · obtain ⟨u, hu, hr⟩ := hl.get hg
      have h1c := hone u (List.mem_of_getElem? hu)
      have hc : u.cells = #[u] := by cases u <;> first | rfl | cases h1c
      refine ⟨u, hr, fun j u' hj => ?_, fun e => ?_, fun _ => hc⟩
      · rw [hc] at hj
        cases j with
        | zero => simp at hj; subst hj; exact hcell off u hu
        | succ j => simp at hj
      · rw [ha] at e; cases e
  exact ⟨V, hV, run_loadVar_mem hT h2 h3 h4⟩
end

def mkElem (agg : Bool) (cs : List AV) : Option AV :=
  match agg with
  | true => some (.agg cs)
  | false => match cs with
    | [c] => some c
    | _ => none

theorem mkElem_spec {g : Gh} {w : World} {agg : Bool} {cs : List AV} {LV : List Value} {e1 : AV} (h : mkElem agg cs = some e1) (hl : RepL g w cs LV) (ho : ∀ u ∈ LV, u.oneCell' = true) : ∃ V' : Value, V'.cells.toList = LV ∧ Rep g w e1 V' := by
  cases agg with
  | true =>
    cases h
    exact ⟨.agg LV.toArray, by simp [Value.cells], _, rfl, by simpa using hl, by simpa using ho⟩
  | false =>
    match cs, h, hl with
    | [c], h, ⟨u, rest, e, h3, h4⟩ =>
      cases h
      have : rest = [] := h4
      subst this
      subst e
      have h1c := ho u (by simp)
      have hcv : u.cells = #[u] := by cases u <;> first | rfl | cases h1c
      exact ⟨u, by rw [hcv], h3⟩
    | [], h, _ => cases h
    | _ :: _ :: _, h, _ => cases h

section rules
variable {P : Program} [Lay P] {all : Array Oper} {draw : Bool} {K : AX → Slots → St → Prop} {rest : List Oper} {acc : List Tag} {s : Slots} {σ : St}
variable {d : Tmp} {ty : TypeId} {pos : String} {af : Array Edge}

/-- The address of an element. -/
theorem A.vindex {T : TypeId} {x i : Operand} {k z n lo hi : Nat} {ik : IntKind} {m : Int} {j r : Nat} {ti te : TI} (hT : ty? P T = some ti) (hk : ti.kind = .slice) (hE : ty? P ti.elem = some te) (hz : Nat.beq te.size z = true)
    (hx : ev? s x = some (.vec k z n lo hi)) (hi' : ev? s i = some (.int ik m)) (hj : m = (j : Int)) (hlt : j < hi - lo) (hr : lo + j = r)
    (kk : AOps P all draw K rest (.pure :: acc) ((d, .vptr k z n r 0) :: s) σ) : AOps P all draw K (⟨some d, .indexAddr T x i, ty, pos, af, none⟩ :: rest) acc s σ :=
  A.step rfl (tpure fun g w a ho => by
    have h1 := op1 hx (by simp [Op.operands]) ho
    have h2 : a.eval i = .int ik m := op1 hi' (by simp [Op.operands]) ho
    obtain ⟨a0, cap, e, c1, c2, c3, c4, c5, rr, hrr, hrz, hle, h6⟩ := h1
    obtain ⟨info, dd, z0, t1, t2, t3, t4, _⟩ := (ty_ok hT).ex
    have hd : ∃ e, dd = .slice e := by rw [hk] at t3; cases dd <;> first | exact ⟨_, rfl⟩ | cases t3
    obtain ⟨el, rfl⟩ := hd
    have hel : el = ti.elem := t4
    subst hel
    have hzz : te.size = z := Nat.eq_of_beq_eq_true hz
    obtain ⟨qb, qo, rfl⟩ := c5 (by omega)
    subst hj
    refine ⟨.pointer (some ⟨qb, qo + j * z, none⟩), ?_, qb, qo + j * z, rfl, by omega, rr, hrr, hrz, hle, fun hn => ?_⟩
    · rw [← hzz]
      simp [execOp, Instr.indexAt, e, h2, asIntOf, run_underlying t2, Result.andThen, run_sizeOf' hE, hlt, addr_add]
    · obtain ⟨l1, l2, l3⟩ := h6 hn
      obtain ⟨p, hp, hps, hpa⟩ := l3 (by omega)
      cases hpa
      exact ⟨l1, p, hp, hps, rfl, by rw [← hr, Nat.add_mul]; omega⟩) kk

/-- The address of a field of an element. -/
theorem A.vfield {T : TypeId} {x : Operand} {f k z nn j off o n : Nat} {ag : Bool} {ti : TI} {r : Nat} (hT : ty? P T = some ti) (hx : ev? s x = some (.vptr k z nn j off)) (hf : ti.fields[f]? = some (o, n, ag)) (hk : ti.kind = .struct) (hn : Nat.blt 0 n = true)
    (hr : off + o = r) (kk : AOps P all draw K rest (.pure :: acc) ((d, .vptr k z nn j r) :: s) σ) : AOps P all draw K (⟨some d, .fieldAddr T x f, ty, pos, af, none⟩ :: rest) acc s σ :=
  A.step rfl (tpure fun g w a ho => by
    have h1 := op1 hx (by simp [Op.operands]) ho
    obtain ⟨b, oo, e, hj, rr, hrr, hrz, hle, h6⟩ := h1
    refine ⟨.pointer (some ⟨b, oo + o, none⟩), ?_, b, oo + o, rfl, hj, rr, hrr, hrz, hle, fun hn => ?_⟩
    · obtain ⟨info, dd, z, t1, t2, t3, t4, t5, t6, t7, t8, t9, t10, t11, t12, t13⟩ := (ty_ok hT).ex
      have hd : ∃ fs, dd = .struct fs := by rw [hk] at t3; cases dd <;> first | exact ⟨_, rfl⟩ | cases t3
      obtain ⟨fs, rfl⟩ := hd
      rw [← t11] at hf
      simp only [fieldsOf, List.getElem?_map, Option.map_eq_some_iff, Prod.mk.injEq] at hf
      obtain ⟨fd, hfd, rfl, hs, _⟩ := hf
      rw [Array.getElem?_toList] at hfd
      have hin := t13 fs rfl fd (by simpa using Array.mem_of_getElem? hfd)
      have hsz : (sizeOf fd.type).run P w = .ok n w := by
        unfold sizeOf
        cases hi' : P.info? fd.type with
        | none => rw [hi'] at hin; simp at hin
        | some inf =>
          have : P.cellsOf fd.type = inf.size := by simp [Program.cellsOf, hi']
          simp only [Sem.run_bind, run_info hi', Result.andThen]
          rw [← hs, this]
          rfl
      have hn0 : n ≠ 0 := by have := Nat.le_of_ble_eq_true hn; omega
      simp only [execOp, e, Instr.fieldAt, Sem.run_bind, run_underlying t2, Result.andThen, hfd, Instr.sureAddr, Sem.run_pure, fieldPlace, hsz, if_neg hn0, addr_add]
    · obtain ⟨l1, p, hp, hps, rfl, rfl⟩ := h6 hn
      exact ⟨l1, p, hp, hps, rfl, by omega⟩) kk

theorem vptr_at {g : Gh} {w : World} (hI : Inv g σ w) {k z n j off : Nat} {xs : List AV} {u : Value} (h : Rep g w (.vptr k z n j off) u) (hT : σ.T[k]? = some (.vec xs)) (hn : xs.length = n) :
    ∃ r Vs p, VecAt g w k z xs r Vs ∧ r.base = some p ∧ p.spot = none ∧ u = .pointer (some ⟨p.block, p.off + j * z + off, none⟩) ∧ j < Vs.length := by
  obtain ⟨b, o, rfl, hj, r, hr, hz, hle, h6⟩ := h
  obtain ⟨t1, t2, t3, Vs, t4, t5, t6, t7⟩ := hI.tok k _ r hr hT
  obtain ⟨l1, p, hp, hps, rfl, rfl⟩ := h6 (by rw [t1, hn])
  subst hz
  exact ⟨r, Vs, p, ⟨hr, rfl, t1, t2, by omega, t4, t5, t6, t7⟩, hp, hps, rfl, by rw [t4.length, hn]; exact hj⟩

/-- A load out of an element. -/
theorem A.vload {T : TypeId} {x : Operand} {k z n j off : Nat} {xs : List AV} {y v : AV} {ti : TI} (hT : ty? P T = some ti) (hx : ev? s x = some (.vptr k z n j off)) (hTk : σ.T[k]? = some (.vec xs)) (hn : xs.length = n) (hy : xs[j]? = some y)
    (hv : cellsK y (fun cs => cut ti.agg ti.size off cs) = some v) (kk : AOps P all draw K rest (.rt :: acc) ((d, v) :: s) σ) : AOps P all draw K (⟨some d, .load T x, ty, pos, af, none⟩ :: rest) acc s σ :=
  A.step (t := .rt) rfl ⟨rfl, fun B => by
    intro g w a next Q hI ho hn'
    have h1 := op1 hx (by simp [Op.operands]) ho
    obtain ⟨r, Vs, p, hva, hp, hps, e, hj⟩ := vptr_at (σ := ⟨B, σ.T⟩) hI h1 hTk hn
    obtain ⟨V, hV, hr⟩ := hva.rep.get hy
    obtain ⟨cs, hcut, hl, hone⟩ := cellsK_spec hv hr
    obtain ⟨m1, m2⟩ := (hva.mem p hp).2 j V hV
    obtain ⟨W, hW, hrun⟩ := load_cells (P := P) hT (b := p.block) (o := p.off + j * z) hl hone (fun i u hi => (m2 i u (by rw [← Array.getElem?_toList]; exact hi)).2.1) hcut
    unfold Oper.wp
    simp only [execOp, e, Instr.loadAt, Instr.sureAddr, Sem.run_bind, Sem.run_pure, Result.andThen]
    rw [hrun]
    exact hn' W w g (Ext.refl g w) hI hW⟩ kk

/-- A store into an element. -/
theorem A.vstore {T : TypeId} {x y : Operand} {k z n j off : Nat} {xs : List AV} {e0 e1 v : AV} {ti : TI} {agg : Bool} {T' : List Tok} (hT : ty? P T = some ti) (hx : ev? s x = some (.vptr k z n j off)) (hy : ev? s y = some v) (hf : fits ti.agg ti.size v = true) (hTk : σ.T[k]? = some (.vec xs)) (hn : xs.length = n)
    (he : xs[j]? = some e0) (hz : (agg || Nat.beq z 1) = true) (hpos : Nat.blt 0 ti.size = true) (hv : cellsK v (fun vs => cellsK e0 (fun cs => overK off vs cs (mkElem agg))) = some e1) (hT' : setTK k (.vec (xs.set j e1)) σ.T some = some T')
    (kk : AOps P all draw K rest (.tk :: acc) s ⟨σ.B, T'⟩) : AOps P all draw K (⟨none, .store T x y, ty, pos, af, none⟩ :: rest) acc s σ :=
  A.step (t := .tk) (v := .undef) (σ' := ⟨σ.B, T'⟩) rfl ⟨rfl, fun B => by
    intro g w a next Q hI ho hn'
    have h1 := op1 hx (by simp [Op.operands]) ho
    have h2 := op1 hy (by simp [Op.operands]) ho
    obtain ⟨kl, hTe⟩ := setTK_spec _ _ _ _ _ hT'
    obtain ⟨r, Vs, p, hva, hp, hps, e, hj⟩ := vptr_at (σ := ⟨B, σ.T⟩) hI h1 hTk hn
    obtain ⟨V, hV, hr⟩ := hva.rep.get he
    obtain ⟨vs, hv1, hl1, ho1⟩ := cellsK_spec hv h2
    obtain ⟨cs, hv2, hl2, ho2⟩ := cellsK_spec hv1 hr
    obtain ⟨hlen, hv3⟩ := overK_spec _ _ _ _ _ hv2
    obtain ⟨f1, _, f3, _⟩ := fits_spec hf h2
    have hVs := hva.size V (List.mem_of_getElem? hV)
    have hcl : cs.length = z := by rw [← hl2.length]; simpa using hVs
    have hvl : vs.length = ti.size := by rw [← hl1.length]; simpa using f1
    have hxl : j < xs.length := (List.getElem?_eq_some_iff.1 he).1
    have hz1 : agg = false → z = 1 := by
      intro e
      rw [e] at hz
      exact Nat.eq_of_beq_eq_true (by simpa using hz)
    have hrl : RepL g w (cs.take off ++ vs ++ cs.drop (off + vs.length)) (V.cells.toList.take off ++ (a.eval y).cells.toList ++ V.cells.toList.drop (off + vs.length)) := ((hl2.take off).append hl1).append (hl2.drop _)
    have hroh : ∀ u ∈ V.cells.toList.take off ++ (a.eval y).cells.toList ++ V.cells.toList.drop (off + vs.length), u.oneCell' = true := by
      intro u hu
      simp only [List.mem_append] at hu
      rcases hu with (hu | hu) | hu
      · exact ho2 u (List.mem_of_mem_take hu)
      · exact ho1 u hu
      · exact ho2 u (List.mem_of_mem_drop hu)
    obtain ⟨V', hV1, hV2⟩ := mkElem_spec hv3 hrl hroh
    have hV's : V'.cells.size = z := by
      have := congrArg List.length hV1
      rw [Array.length_toList] at this
      rw [this]
      have hle := hl1.length
      simp only [List.length_append, List.length_take, List.length_drop, Array.length_toList, hVs, f1]
      omega
    have hfl : (flat Vs).length = Vs.length * z := flat_length hva.size
    have hb : (j + 1) * z ≤ Vs.length * z := Nat.mul_le_mul_right _ (by omega)
    rw [Nat.succ_mul] at hb
    have hcap : Vs.length * z ≤ r.cap * z := Nat.mul_le_mul_right _ (by rw [hva.len]; exact hva.cap)
    have hal : (a.eval y).cells.toList.length = ti.size := by simpa using f1
    have hp0 : 0 < ti.size := Nat.le_of_ble_eq_true hpos
    have hdec : V.cells.toList = ((flat Vs).drop (j * z)).take z := by
      apply List.ext_getElem?
      intro i
      by_cases hi : i < z
      · rw [List.getElem?_take_of_lt hi, List.getElem?_drop, flat_get hva.size hV hi]
        simp
      · rw [List.getElem?_eq_none (by simp; omega), List.getElem?_eq_none (by simp; omega)]
    obtain ⟨w', g', s1, s2, s3, s4⟩ := vec_put (P := P) (σ := ⟨B, σ.T⟩) hI hva hTk hp hps (at_ := j * z + off) (cs := (a.eval y).cells.toList) (ys := xs.set j e1) (Us := Vs.set j V')
      (by
        rw [flat_set hva.size hj, hV1, hdec, List.take_take, Nat.min_eq_left (by omega), List.drop_take, List.drop_drop]
        have e1' : (flat Vs).take (j * z + off) = (flat Vs).take (j * z) ++ ((flat Vs).drop (j * z)).take off := by rw [← List.take_add]
        have e2' : (flat Vs).drop (j * z + off + (a.eval y).cells.toList.length) = ((flat Vs).drop (j * z + (off + vs.length))).take (z - (off + vs.length)) ++ (flat Vs).drop ((j + 1) * z) := by
          have h := (List.take_append_drop (z - (off + vs.length)) ((flat Vs).drop (j * z + (off + vs.length)))).symm
          rw [List.drop_drop, show j * z + (off + vs.length) + (z - (off + vs.length)) = (j + 1) * z by rw [Nat.succ_mul]; omega] at h
          rw [hal, ← hvl, Nat.add_assoc]
          exact h
        rw [e1', e2']
        simp only [List.append_assoc])
      (by omega) (by omega) (by omega) ho1 (hva.rep.set j hV2) (fun U hU => by
        rcases List.mem_or_eq_of_mem_set hU with h | rfl
        · exact hva.size U h
        · exact hV's) (by simp) (by rw [List.length_set]; exact hva.cap)
    unfold Oper.wp
    simp only [execOp, e, Instr.storeAt, Instr.sureAddr, storeVar, Sem.run_bind, Sem.run_pure, Result.andThen, run_sizeOf' hT, f1, ne_eq, not_true_eq_false, if_false]
    rw [Nat.add_assoc, s1]
    refine hn' undef w' g' s2 ?_ trivial
    rw [show (⟨σ.B, T'⟩ : St).T = T' from rfl, ← Option.some.inj hTe]
    exact s3⟩ kk

theorem A.vlen {T : TypeId} {x : Operand} {k z n0 lo hi : Nat} {n : Int} {ti : TI} (hT : ty? P T = some ti) (hk : ti.kind = .slice) (hx : ev? s x = some (.vec k z n0 lo hi)) (hn : ((hi - lo : Nat) : Int) = n)
    (kk : AOps P all draw K rest (.pure :: acc) ((d, .int .i64 n) :: s) σ) : AOps P all draw K (⟨some d, .call ⟨.builtin .len, #[x], #[T]⟩, ty, pos, af, none⟩ :: rest) acc s σ :=
  A.step rfl (tpure fun g w a ho => by
    obtain ⟨a0, cap, e, _⟩ := op1 hx (by simp [Op.operands, Call.operands]) ho
    refine ⟨.int .i64 (hi - lo : Nat), ?_, by rw [hn]; rfl⟩
    obtain ⟨info, dd, z, t1, t2, t3, _⟩ := (ty_ok hT).ex
    have hd : ∃ e, dd = .slice e := by rw [hk] at t3; cases dd <;> first | exact ⟨_, rfl⟩ | cases t3
    obtain ⟨el, rfl⟩ := hd
    simp [execOp, resolve, invoke, builtin, Builtin.len_, e, run_underlying t2, goInt, Result.andThen]) kk
end rules
end Go.Av
