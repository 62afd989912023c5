/-
  Slices that are written: parts, clear; ghost steps; calls that only look.
-/
import Derived.Test.YtajddgpkflbnaaaAvVec3
set_option linter.unusedVariables false
namespace Go.Av
open Go
set_option linter.unusedSectionVars false
variable [Globals]

section rules
variable {P : Program} [Lay P] {all : Array Oper} {draw : Bool} {K : AX → Slots → St → Prop} {rest : List Oper} {acc : List Tag} {s : Slots} {σ : St}
variable {d : Tmp} {ty : TypeId} {pos : String} {af : Array Edge}

omit [Lay P] in
theorem bound_run {y : Operand} {nh dflt : Int} {h m : Nat} {c : BoundsCode} {g : Gh} {w : World} {a : Act} (hh : bnd? s (some y) dflt = some nh) (eh : nh = (h : Int)) (hm : h ≤ m) (ho : Rep g w (ev s y) (a.eval y)) : (Instr.sliceBound (a.eval y) m c).run P w = .ok h w := by
  obtain ⟨ik, hy⟩ := bnd_some hh
  rw [ev_of hy] at ho
  have hyv : a.eval y = .int ik nh := ho
  have hb : 0 ≤ (h : Int) ∧ (h : Int) ≤ (m : Int) := by omega
  simp only [Instr.sliceBound, hyv, asIntOf, eh, Sem.run_bind, Sem.run_pure, Result.andThen]
  rw [if_pos hb]
  simp

/-- A part of a slice that may be written. -/
theorem A.vslice {T : TypeId} {x : Operand} {lo hi : Option Operand} {k z n l0 h0 : Nat} {nl nh : Int} {ti te : TI} (l h : Nat) {rl rh : Nat} (hT : ty? P T = some ti) (hk : ti.kind = .slice) (hE : ty? P ti.elem = some te) (hz : Nat.beq te.size z = true)
    (hx : ev? s x = some (.vec k z n l0 h0)) (hl : bnd? s lo 0 = some nl) (hh : bnd? s hi ((h0 - l0 : Nat) : Int) = some nh) (el : nl = (l : Int)) (eh : nh = (h : Int)) (h1 : l ≤ h) (h2 : h ≤ n - l0) (er : l0 + l = rl) (eh' : l0 + h = rh)
    (kk : AOps P all draw K rest (.pure :: acc) ((d, .vec k z n rl rh) :: s) σ) : AOps P all draw K (⟨some d, .slice T x lo hi none, ty, pos, af, none⟩ :: rest) acc s σ :=
  A.step rfl (tpure fun g w a ho => by
    obtain ⟨a0, cap, e, c1, c2, c3, c4, c5, rr, hrr, hrz, hle, h6⟩ := op1 hx (by simp [Op.operands]) ho
    obtain ⟨info, dd, z0, t1, t2, t3, t4, _⟩ := (ty_ok hT).ex
    have hd : ∃ e, dd = .slice e := by rw [hk] at t3; cases dd <;> first | exact ⟨_, rfl⟩ | cases t3
    obtain ⟨elm, rfl⟩ := hd
    have hel : elm = ti.elem := t4
    subst hel
    have hzz : te.size = z := Nat.eq_of_beq_eq_true hz
    have hrun : (execOp a.eval ⟨some d, .slice T x lo hi none, ty, pos, af, none⟩).run P w = .ok (.value (.slice (if cap - l0 = l then a0 else a0.map (·.add (l * z))) (h - l) (cap - l0 - l))) w := by
      have hhi : ∀ y, hi = some y → (Instr.sliceBound (a.eval y) (cap - l0) .sliceAcap).run P w = .ok h w := by
        intro y hy0
        subst hy0
        exact bound_run hh eh (by omega) (ho y (by simp [Op.operands]))
      have hlo : ∀ y, lo = some y → (Instr.sliceBound (a.eval y) h .sliceB).run P w = .ok l w := by
        intro y hy0
        subst hy0
        exact bound_run hl el h1 (ho y (by simp [Op.operands]))
      have hl0 : lo = none → l = 0 := by
        intro e0
        subst e0
        have : (0 : Int) = nl := Option.some.inj hl
        omega
      have hh0 : hi = none → h = h0 - l0 := by
        intro e0
        subst e0
        have : ((h0 - l0 : Nat) : Int) = nh := Option.some.inj hh
        omega
      rw [← hzz]
      cases lo with
      | none =>
        have hl0' := hl0 rfl
        subst hl0'
        cases hi with
        | none =>
          have hh0' := hh0 rfl
          subst hh0'
          simp [execOp, e, Instr.sliceAt, run_underlying t2, Result.andThen, Instr.slice, Instr.sliceBounds, run_sizeOf' hE]
        | some y =>
          have := hhi y rfl
          simp [execOp, e, Instr.sliceAt, run_underlying t2, Result.andThen, Instr.slice, Instr.sliceBounds, run_sizeOf' hE, this]
      | some zz =>
        have hzl := hlo zz rfl
        cases hi with
        | none =>
          have hh0' := hh0 rfl
          subst hh0'
          simp [execOp, e, Instr.sliceAt, run_underlying t2, Result.andThen, Instr.slice, Instr.sliceBounds, run_sizeOf' hE, hzl]
        | some y =>
          have := hhi y rfl
          simp [execOp, e, Instr.sliceAt, run_underlying t2, Result.andThen, Instr.slice, Instr.sliceBounds, run_sizeOf' hE, hzl, this]
    refine ⟨_, hrun, _, cap, by rw [← er, ← eh']; congr 1 <;> omega, by omega, by omega, c3, c4, fun hc => ?_, rr, hrr, hrz, hle, fun hn => ?_⟩
    · obtain ⟨b, o, rfl⟩ := c5 (by omega)
      rw [if_neg (by omega)]
      exact ⟨b, o + l * z, by simp [addr_add]⟩
    · obtain ⟨l1, l2, l3⟩ := h6 hn
      refine ⟨l1, l2, fun hc => ?_⟩
      obtain ⟨p, hp, hps, rfl⟩ := l3 (by omega)
      rw [if_neg (by omega)]
      refine ⟨p, hp, hps, ?_⟩
      simp only [Option.map_some, addr_add, Option.some.injEq, Addr.mk.injEq, true_and, and_true]
      rw [← er, Nat.add_mul]
      omega) kk

/-- A slice expression with three bounds whose value is not asked for. -/
theorem A.slice3 {T : TypeId} {x lo hi mx : Operand} {k z n l0 h0 : Nat} {nl nh nm : Int} {ti te : TI} (l h m : Nat) (hT : ty? P T = some ti) (hk : ti.kind = .slice) (hE : ty? P ti.elem = some te)
    (hx : ev? s x = some (.vec k z n l0 h0)) (hl : bnd? s (some lo) 0 = some nl) (hh : bnd? s (some hi) 0 = some nh) (hm : bnd? s (some mx) 0 = some nm) (el : nl = (l : Int)) (eh : nh = (h : Int)) (em : nm = (m : Int)) (h1 : l ≤ h) (h2 : h ≤ m) (h3 : m ≤ h0 - l0)
    (kk : AOps P all draw K rest (.pure :: acc) ((d, .undef) :: s) σ) : AOps P all draw K (⟨some d, .slice T x (some lo) (some hi) (some mx), ty, pos, af, none⟩ :: rest) acc s σ :=
  A.step rfl (tpure fun g w a ho => by
    obtain ⟨a0, cap, e, c1, c2, c3, c4, c5, rr, hrr, hrz, hle, h6⟩ := op1 hx (by simp [Op.operands]) ho
    obtain ⟨info, dd, z0, t1, t2, t3, t4, _⟩ := (ty_ok hT).ex
    have hd : ∃ e, dd = .slice e := by rw [hk] at t3; cases dd <;> first | exact ⟨_, rfl⟩ | cases t3
    obtain ⟨elm, rfl⟩ := hd
    have hel : elm = ti.elem := t4
    subst hel
    have b1 := bound_run (P := P) (w := w) (a := a) (c := .slice3Acap) hm em (show m ≤ cap - l0 by omega) (ho mx (by simp [Op.operands]))
    have b2 := bound_run (P := P) (w := w) (a := a) (c := .slice3B) hh eh h2 (ho hi (by simp [Op.operands]))
    have b3 := bound_run (P := P) (w := w) (a := a) (c := .slice3C) hl el h1 (ho lo (by simp [Op.operands]))
    refine ⟨.slice (if m = l then a0 else a0.map (·.add (l * te.size))) (h - l) (m - l), ?_, trivial⟩
    simp [execOp, e, Instr.sliceAt, run_underlying t2, Result.andThen, Instr.slice, Instr.sliceBounds, run_sizeOf' hE, b1, b2, b3]) kk

/-- What append does that moves the tail of a slice ahead: 'append(s[:i], s[j:]...)'. -/
theorem A.vshift {T : TypeId} {x y : Operand} {xs : List AV} {k z n i j m : Nat} {ti te : TI} {T' : List Tok} (hT : ty? P T = some ti) (hk : ti.kind = .slice) (hE : ty? P ti.elem = some te) (hz : Nat.beq te.size z = true) (hz0 : Nat.blt 0 z = true)
    (hx : ev? s x = some (.vec k z n 0 i)) (hy : ev? s y = some (.vec k z n j n)) (hTk : σ.T[k]? = some (.vec xs)) (hn : xs.length = n) (hij : i ≤ j) (hjn : j ≤ n) (hm : i + (n - j) = m) (hT' : setTK k (.vec (xs.take i ++ xs.drop j ++ xs.drop m)) σ.T some = some T')
    (kk : AOps P all draw K rest (.tk :: acc) ((d, .vec k z n 0 m) :: s) ⟨σ.B, T'⟩) : AOps P all draw K (⟨some d, .call ⟨.builtin .append, #[x, y], #[T, T]⟩, ty, pos, af, none⟩ :: rest) acc s σ :=
  A.step (t := .tk) (σ' := ⟨σ.B, T'⟩) rfl ⟨rfl, fun B => by
    intro g w a next Q hI ho hn'
    subst hm
    have h1 := op1 hx (by simp [Op.operands, Call.operands]) ho
    have h2 := op1 hy (by simp [Op.operands, Call.operands]) ho
    obtain ⟨kl, hTe⟩ := setTK_spec _ _ _ _ _ hT'
    have hz' : te.size = z := Nat.eq_of_beq_eq_true hz
    have hzp : 0 < z := Nat.le_of_ble_eq_true hz0
    obtain ⟨r, Vs, hv⟩ := vec_at (σ := ⟨B, σ.T⟩) hI h1 hTk hn
    have hvl : Vs.length = n := by rw [hv.len, hn]
    obtain ⟨a0, cap, e0, _, _, c3, c4, c5, r0, hr0, hzr, hle, h6⟩ := h1
    have : r0 = r := Option.some.inj (hr0.symm.trans hv.hr)
    subst this
    obtain ⟨l1, l2, l3⟩ := h6 (by rw [hv.n, hn])
    obtain ⟨a1, cap1, e1, _, _, d3, d4, d5, r1, hr1, hzr1, hle1, k6⟩ := h2
    have : r1 = r0 := Option.some.inj (hr1.symm.trans hv.hr)
    subst this
    obtain ⟨m1, m2, m3⟩ := k6 (by rw [hv.n, hn])
    have hcc : cap1 = cap := by rw [← m2, ← l2]
    subst hcc
    simp only [Nat.sub_zero, Nat.zero_mul, Nat.add_zero] at e0 c5 l3
    obtain ⟨info, dd, z0, t1, t2, t3, t4, _⟩ := (ty_ok hT).ex
    have hd : ∃ e, dd = .slice e := by rw [hk] at t3; cases dd <;> first | exact ⟨_, rfl⟩ | cases t3
    obtain ⟨el, rfl⟩ := hd
    have hel : el = ti.elem := t4
    subst hel
    obtain ⟨ie, de, ze, u1, u2, u3, u4, u5, u6, u7, u8, u9, u10, u11, u12, u13⟩ := (ty_ok hE).ex
    have hroom : i + (n - j) ≤ cap1 := by omega
    by_cases hjn' : j = n
    · -- nothing is moved
      subst hjn'
      have e1' : a.eval y = .slice a1 0 (cap1 - j) := by rw [e1, Nat.sub_self]
      have hfc : (Builtin.firstCells ie.size 0 (.slice a1 0 (cap1 - j))).run P w = .ok #[] w := by
        cases a1 <;> simp [Builtin.firstCells, loadCells, loadCellsFrom]
      have hic : i ≤ cap1 := by omega
      have hrun : (Builtin.append_ #[T, T] ty #[a.eval x, a.eval y]).run P w = .ok (.slice a0 i cap1) w := by
        rw [e0, e1']
        cases a0 <;> simp [Builtin.append_, run_underlying t2, sizeOf, typeInfo, u1, Builtin.lenOf, hic, hfc, storeCells]
      unfold Oper.wp
      rw [run_append_op hrun]
      have hsame : xs.take i ++ xs.drop j ++ xs.drop (i + (j - j)) = xs := by
        rw [List.drop_eq_nil_of_le (show xs.length ≤ j by omega), List.append_nil, Nat.sub_self, Nat.add_zero, List.take_append_drop]
      refine hn' _ w g (Ext.refl g w) ?_ ⟨a0, cap1, (by rw [Nat.sub_self]; rfl), Nat.zero_le _, by omega, c3, c4, c5, r1, hr0, hzr, hle, fun hn2 => ⟨l1, l2, fun hc => by simpa using l3 hc⟩⟩
      rw [show (⟨σ.B, T'⟩ : St).T = T' from rfl, ← Option.some.inj hTe, hsame, set_self hTk]
      exact hI
    · obtain ⟨p, hp, hps, hpa⟩ := l3 (by omega)
      obtain ⟨q, hq, hqs, hqa⟩ := m3 (by omega)
      have : q = p := Option.some.inj (hq.symm.trans hp)
      subst this
      subst hpa; subst hqa
      have hmem := (hv.mem _ hp).2
      have hfd : flat (Vs.drop j) = (flat Vs).drop (j * z) := flat_drop j hv.size
      have hfl : (flat (Vs.drop j)).length = (n - j) * ie.size := by
        rw [flat_length (sz := z) (fun V hV => hv.size V (List.mem_of_mem_drop hV)), List.length_drop, hvl, u6, hz']
      have hcell : ∀ (jj : Nat) (v : Value), (flat (Vs.drop j))[jj]? = some v → w.cell? ((⟨q.block, q.off + j * z, none⟩ : Addr).add jj) = some v ∧ v.oneCell' = true := fun jj v hj => by
        rw [hfd, List.getElem?_drop] at hj
        obtain ⟨_, f2, f3⟩ := hmem.flat hj
        rw [addr_add, Nat.add_assoc]
        exact ⟨f2, f3⟩
      have hone : ∀ v ∈ flat (Vs.drop j), v.oneCell' = true := fun v hv => by
        obtain ⟨jj, hj⟩ := List.getElem?_of_mem hv
        exact (hcell jj v hj).2
      have hfc := run_firstCells_some (P := P) w ie.size (n - j) ⟨q.block, q.off + j * z, none⟩ (n - j) (cap1 - j) (flat (Vs.drop j)) hfl (fun jj v hj => (hcell jj v hj).1)
      have hpos : 0 < (flat (Vs.drop j)).length := by rw [hfl, u6, hz']; exact Nat.mul_pos (by omega) hzp
      have hmul : i * z + (n - j) * z ≤ n * z := by rw [← Nat.add_mul]; exact Nat.mul_le_mul_right _ (by omega)
      have hcapz : n * z ≤ r1.cap * z := Nat.mul_le_mul_right _ (by omega)
      have hsz : ∀ V ∈ Vs.take i ++ Vs.drop j ++ Vs.drop (i + (n - j)), V.cells.size = z := fun V hV => by
        simp only [List.mem_append] at hV
        rcases hV with (hV | hV) | hV
        · exact hv.size V (List.mem_of_mem_take hV)
        · exact hv.size V (List.mem_of_mem_drop hV)
        · exact hv.size V (List.mem_of_mem_drop hV)
      have hxl : (xs.take i ++ xs.drop j ++ xs.drop (i + (n - j))).length = n := by simp; omega
      obtain ⟨w', g', s1, s2, s3, s4⟩ := vec_put (P := P) (σ := ⟨B, σ.T⟩) hI hv hTk hp hps (at_ := i * z) (cs := flat (Vs.drop j)) (ys := xs.take i ++ xs.drop j ++ xs.drop (i + (n - j))) (Us := Vs.take i ++ Vs.drop j ++ Vs.drop (i + (n - j)))
        (by
          rw [flat_append, flat_append, flat_take i hv.size, flat_drop (i + (n - j)) hv.size, hfl, u6, hz', Nat.add_mul])
        (by rw [hv.flat_len, hn]; omega) (by rw [hfl, u6, hz']; omega) hpos hone (((hv.rep.take i).append (hv.rep.drop j)).append (hv.rep.drop _)) hsz (by omega) (by omega)
      have hadd : (⟨q.block, q.off, none⟩ : Addr).add (i * ie.size) = ⟨q.block, q.off + i * z, none⟩ := by rw [addr_add, u6, hz']
      have hrun : (Builtin.append_ #[T, T] ty #[a.eval x, a.eval y]).run P w = .ok (.slice (some ⟨q.block, q.off, none⟩) (i + (n - j)) cap1) w' := by
        rw [e0, e1]
        simp [Builtin.append_, run_underlying t2, sizeOf, typeInfo, u1, Builtin.lenOf, hroom, hfc, hadd, s1]
      unfold Oper.wp
      rw [run_append_op hrun]
      refine hn' _ w' g' s2 ?_ ⟨some ⟨q.block, q.off, none⟩, cap1, rfl, Nat.zero_le _, by omega, c3, c4, (fun _ => ⟨_, _, rfl⟩), { r1 with n := (xs.take i ++ xs.drop j ++ xs.drop (i + (n - j))).length }, s4, hzr, Nat.le_of_eq hxl.symm, fun _ => ⟨hv.lo, l2, fun _ => ⟨q, hp, hps, by rw [Nat.zero_mul]; rfl⟩⟩⟩
      rw [show (⟨σ.B, T'⟩ : St).T = T' from rfl, ← Option.some.inj hTe]
      exact s3⟩ kk

/-- clear of a part. -/
theorem A.vclear {T : TypeId} {x : Operand} {xs : List AV} {k z n lo hi : Nat} {ti te : TI} {T' : List Tok} (hT : ty? P T = some ti) (hk : ti.kind = .slice) (hE : ty? P ti.elem = some te) (hz : Nat.beq te.size z = true) (hz0 : Nat.blt 0 z = true)
    (hx : ev? s x = some (.vec k z n lo hi)) (hTk : σ.T[k]? = some (.vec xs)) (hn : xs.length = n) (hT' : setTK k (.vec (xs.take lo ++ List.replicate (hi - lo) te.zero ++ xs.drop hi)) σ.T some = some T')
    (kk : AOps P all draw K rest (.tk :: acc) s ⟨σ.B, T'⟩) : AOps P all draw K (⟨none, .call ⟨.builtin .clear, #[x], #[T]⟩, ty, pos, af, none⟩ :: rest) acc s σ :=
  A.step (t := .tk) (v := .undef) (σ' := ⟨σ.B, T'⟩) rfl ⟨rfl, fun B => by
    intro g w a next Q hI ho hn'
    have h1 := op1 hx (by simp [Op.operands, Call.operands]) ho
    obtain ⟨kl, hTe⟩ := setTK_spec _ _ _ _ _ hT'
    have hz' : te.size = z := Nat.eq_of_beq_eq_true hz
    have hzp : 0 < z := Nat.le_of_ble_eq_true hz0
    obtain ⟨r, Vs, hv⟩ := vec_at (σ := ⟨B, σ.T⟩) hI h1 hTk hn
    have hvl : Vs.length = n := by rw [hv.len, hn]
    obtain ⟨a0, cap, e0, c1, c2, c3, c4, c5, r0, hr0, hzr, hle, h6⟩ := h1
    have : r0 = r := Option.some.inj (hr0.symm.trans hv.hr)
    subst this
    obtain ⟨l1, l2, l3⟩ := h6 (by rw [hv.n, hn])
    obtain ⟨info, dd, z0, t1, t2, t3, t4, _⟩ := (ty_ok hT).ex
    have hd : ∃ e, dd = .slice e := by rw [hk] at t3; cases dd <;> first | exact ⟨_, rfl⟩ | cases t3
    obtain ⟨el, rfl⟩ := hd
    have hel : el = ti.elem := t4
    subst hel
    have hop : ∀ {w' : World}, (Builtin.clear_ #[T] ty #[a.eval x]).run P w = .ok (.tuple #[]) w' →
        (execOp a.eval ⟨none, .call ⟨.builtin .clear, #[x], #[T]⟩, ty, pos, af, none⟩).run P w = .ok (.value (.tuple #[])) w' := by
      intro w' h
      have hmap : Array.map a.eval #[x] = #[a.eval x] := by simp
      simp only [execOp, resolve, Sem.run_bind, Sem.run_pure, Result.andThen, invoke, builtin, hmap, h]
    by_cases hlh : hi - lo = 0
    · have hrun : (Builtin.clear_ #[T] ty #[a.eval x]).run P w = .ok (.tuple #[]) w := by
        rw [e0, hlh]
        cases a0 <;> simp [Builtin.clear_, run_underlying t2]
      unfold Oper.wp
      rw [hop hrun]
      refine hn' _ w g (Ext.refl g w) ?_ trivial
      have hsame : xs.take lo ++ List.replicate (hi - lo) te.zero ++ xs.drop hi = xs := by
        rw [hlh, show hi = lo by omega]; simp
      rw [show (⟨σ.B, T'⟩ : St).T = T' from rfl, ← Option.some.inj hTe, hsame, set_self hTk]
      exact hI
    · obtain ⟨p, hp, hps, rfl⟩ := l3 (by omega)
      obtain ⟨zv, hzv, hz1, hz2, hz3⟩ := run_zero' hE w
      have hrz : Rep g w te.zero zv := by rw [← hz1]; exact rep_ofConst g w zv
      have hfr : flat (List.replicate (hi - lo) zv) = (Builtin.zeroCells zv.cells (hi - lo)).toList := flat_replicate zv _
      have hlen : (flat (List.replicate (hi - lo) zv)).length = (hi - lo) * z := by
        rw [flat_length (sz := z) (fun V hV => by rw [(List.mem_replicate.1 hV).2, hz2, hz']), List.length_replicate]
      have hsz : ∀ V ∈ Vs.take lo ++ List.replicate (hi - lo) zv ++ Vs.drop hi, V.cells.size = z := fun V hV => by
        simp only [List.mem_append] at hV
        rcases hV with (hV | hV) | hV
        · exact hv.size V (List.mem_of_mem_take hV)
        · rw [(List.mem_replicate.1 hV).2, hz2, hz']
        · exact hv.size V (List.mem_of_mem_drop hV)
      have hrr : ∀ m : Nat, RepL g w (List.replicate m te.zero) (List.replicate m zv) := by
        intro m
        induction m with
        | zero => exact rfl
        | succ m ih => exact ⟨zv, _, rfl, hrz, ih⟩
      have hxl : (xs.take lo ++ List.replicate (hi - lo) te.zero ++ xs.drop hi).length = n := by simp; omega
      have hsplit : hi * z = lo * z + (hi - lo) * z := by rw [← Nat.add_mul]; congr 1; omega
      have hb : hi * z ≤ n * z := Nat.mul_le_mul_right _ c2
      have hcapz : n * z ≤ r0.cap * z := Nat.mul_le_mul_right _ (by omega)
      obtain ⟨w', g', s1, s2, s3, s4⟩ := vec_put (P := P) (σ := ⟨B, σ.T⟩) hI hv hTk hp hps (at_ := lo * z) (cs := flat (List.replicate (hi - lo) zv)) (ys := xs.take lo ++ List.replicate (hi - lo) te.zero ++ xs.drop hi) (Us := Vs.take lo ++ List.replicate (hi - lo) zv ++ Vs.drop hi)
        (by rw [flat_append, flat_append, flat_take lo hv.size, flat_drop hi hv.size, hlen, ← hsplit])
        (by rw [hv.flat_len, hn]; omega) (by rw [hlen]; omega) (by rw [hlen]; exact Nat.mul_pos (by omega) hzp) (fun v hvm => by
          obtain ⟨V, hV, hv2⟩ := List.mem_flatMap.1 hvm
          rw [(List.mem_replicate.1 hV).2] at hv2
          exact hz3 v hv2) (((hv.rep.take lo).append (hrr _)).append (hv.rep.drop _)) hsz (by omega) (by omega)
      have hrun : (Builtin.clear_ #[T] ty #[a.eval x]).run P w = .ok (.tuple #[]) w' := by
        obtain ⟨mm, hmm⟩ : ∃ mm, hi - lo = mm + 1 := ⟨hi - lo - 1, by omega⟩
        rw [e0]
        rw [hfr] at s1
        rw [hmm] at s1 ⊢
        simp [Builtin.clear_, run_underlying t2, hzv, s1]
      unfold Oper.wp
      rw [hop hrun]
      refine hn' _ w' g' s2 ?_ trivial
      rw [show (⟨σ.B, T'⟩ : St).T = T' from rfl, ← Option.some.inj hTe]
      exact s3⟩ kk
end rules
end Go.Av
