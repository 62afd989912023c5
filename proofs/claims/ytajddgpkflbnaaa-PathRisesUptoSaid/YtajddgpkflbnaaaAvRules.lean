/-
  The rules of operations on variables and on slices that are read.
-/
import Derived.Test.YtajddgpkflbnaaaAvWorld
set_option linter.unusedVariables false
namespace Go.Av
open Go
set_option linter.unusedSectionVars false
variable [Globals]

section tools
variable {P : Program} [Lay P]

omit [Lay P] in
theorem run_info {t : TypeId} {i : TypeInfo} (h : P.info? t = some i) (w : World) : (typeInfo t).run P w = .ok i w := by simp [typeInfo, h]
theorem run_isAgg' {t : TypeId} {ti : TI} (h : ty? P t = some ti) (w : World) : (isAgg t).run P w = .ok ti.agg w := by
  obtain ⟨info, d, z, h1, h2, h3, h4, h5, h6, _⟩ := (ty_ok h).ex
  unfold isAgg
  simp only [Sem.run_bind, run_underlying h2, Result.andThen]
  rw [← h5]
  cases d <;> rfl
theorem run_sizeOf' {t : TypeId} {ti : TI} (h : ty? P t = some ti) (w : World) : (sizeOf t).run P w = .ok ti.size w := by
  obtain ⟨info, d, z, h1, h2, h3, h4, h5, h6, _⟩ := (ty_ok h).ex
  unfold sizeOf
  simp only [Sem.run_bind, run_info h1, Result.andThen]
  rw [← h6]
  rfl
theorem run_zero' {t : TypeId} {ti : TI} (h : ty? P t = some ti) (w : World) : ∃ z, (zeroValue t).run P w = .ok z w ∧ ofConst z = ti.zero ∧ z.cells.size = ti.size ∧ ∀ v ∈ z.cells.toList, v.oneCell' = true := by
  obtain ⟨info, d, z, h1, h2, h3, h4, h5, h6, h7, h8, h9, h10, h11, h12, _⟩ := (ty_ok h).ex
  refine ⟨z, ?_, h9, h10, List.all_eq_true.1 h12⟩
  unfold zeroValue
  simp only [Sem.run_bind, run_info h1, Result.andThen, h8]
  rfl

theorem addr_add (b o n : Nat) : (⟨b, o, none⟩ : Addr).add n = ⟨b, o + n, none⟩ := by
  unfold Addr.add
  split
  · rename_i h; subst h; rfl
  · rfl

/-- A variable's value out of memory, whole. -/
theorem run_loadVar_mem {t : TypeId} {ti : TI} (h : ty? P t = some ti) {w : World} {b o : Nat} {V : Value} (hc : ∀ (j : Nat) (u : Value), V.cells[j]? = some u → w.cell? ⟨b, o + j, none⟩ = some u)
    (h1 : ti.agg = true → ∃ vs, V = .agg vs ∧ vs.size = ti.size) (h2 : ti.agg = false → V.cells = #[V]) : (loadVar t ⟨b, o, none⟩).run P w = .ok V w := by
  unfold loadVar
  simp only [Sem.run_bind, run_isAgg' h, Result.andThen]
  cases e : ti.agg with
  | true =>
    obtain ⟨vs, rfl, hs⟩ := h1 e
    simp only [if_true, Sem.run_bind, run_sizeOf' h, Result.andThen]
    have := run_loadCells_list (P := P) w ⟨b, o, none⟩ vs.toList (fun j u hj => by rw [addr_add]; exact hc j u (by simpa [Value.cells] using hj))
    rw [show vs.toList.length = ti.size by simpa using hs] at this
    rw [this]
    simp
  | false =>
    have h3 := hc 0 V (by rw [h2 e]; rfl)
    simp only [Bool.false_eq_true, if_false]
    rw [run_load]
    simp only [Nat.add_zero] at h3
    rw [h3]
end tools

section rules
variable {P : Program} [Lay P] {all : Array Oper} {draw : Bool} {K : AX → Slots → St → Prop} {rest : List Oper} {acc : List Tag} {s : Slots} {σ : St}
variable {d : Tmp} {ty : TypeId} {pos : String} {af : Array Edge}

/-- One operand. -/
theorem op1 {o : Oper} {x : Operand} {v : AV} (hx : ev? s x = some v) {g : Gh} {w : World} {a : Act} (hm : x ∈ o.op.operands.toList) (ho : ∀ x, x ∈ o.op.operands.toList → Rep g w (ev s x) (a.eval x)) : Rep g w v (a.eval x) := by
  have := ho x hm
  rwa [ev_of hx] at this

/-- A load of data that is never written any more. -/
theorem A.load_r {T : TypeId} {x : Operand} {y : AV} {ti : TI} (hT : ty? P T = some ti) (hx : ev? s x = some (.rptr y)) (hf : fits ti.agg ti.size y = true) (k : AOps P all draw K rest (.pure :: acc) ((d, y) :: s) σ) :
    AOps P all draw K (⟨some d, .load T x, ty, pos, af, none⟩ :: rest) acc s σ :=
  A.step rfl (tpure fun g w a ho => by
    have h1 := op1 hx (by simp [Op.operands]) ho
    obtain ⟨b, o, V, e, h2, h3⟩ := h1
    obtain ⟨f1, f2, f3, f4⟩ := fits_spec hf h3
    refine ⟨V, ?_, h3⟩
    simp only [execOp, e, Instr.loadAt, Instr.sureAddr, Sem.run_bind, Sem.run_pure, Result.andThen]
    rw [run_loadVar_mem hT (fun j u hj => (h2 j u hj).2.1) f2 (fun e => (f3 e).1)]) k

/-- What an object holds, as a load sees it. -/
theorem load_obj {P : Program} [Lay P] {σ : St} {T : TypeId} {i off b : Nat} {cs : List AV} {v : AV} {ti : TI} {g : Gh} {w : World} (hT : ty? P T = some ti) (hi : Inv g σ w) (hb : g.bx[i]? = some b) (hB : σ.B[i]? = some (.cells cs)) (hv : cut ti.agg ti.size off cs = some v) :
    ∃ V, Rep g w v V ∧ (loadVar T ⟨b, off, none⟩).run P w = .ok V w := by
    obtain ⟨vals, T', hh, hl, hone⟩ := hi.ob i b _ hb hB
    have hcell : ∀ j, w.cell? ⟨b, j, none⟩ = vals[j]? := by intro j; unfold World.cell?; rw [hh]; simp
    obtain ⟨V, hV, h2, h3, h4⟩ : ∃ V, Rep g w v V ∧ (∀ (j : Nat) (u : Value), V.cells[j]? = some u → w.cell? ⟨b, off + j, none⟩ = some u) ∧ (ti.agg = true → ∃ vs, V = .agg vs ∧ vs.size = ti.size) ∧ (ti.agg = false → V.cells = #[V]) := by
      rcases cut_spec hv with ⟨ha, _, rfl, hlen⟩ | ⟨ha, hg⟩
      · have hl2 := (hl.drop off).take ti.size
        have hsz : ((vals.toList.drop off).take ti.size).length = ti.size := by
          have := (hl.drop off).length
          rw [List.length_take, this]
          omega
        refine ⟨.agg ((vals.toList.drop off).take ti.size).toArray, ⟨_, rfl, by simpa using hl2, fun u hu => ?_⟩, fun j u hj => ?_, fun _ => ⟨_, rfl, by simpa using hsz⟩, fun e => ?_⟩
        · refine hone u (List.mem_of_mem_drop (List.mem_of_mem_take (i := ti.size) (l := vals.toList.drop off) (by simpa using hu)))
        · rw [hcell]
          simp only [Value.cells, List.getElem?_toArray, List.getElem?_take, List.getElem?_drop, Array.getElem?_toList] at hj
          split at hj
          · exact hj
          · cases hj
        · rw [ha] at e; cases e
      · obtain ⟨u, hu, hr⟩ := hl.get hg
        rw [Array.getElem?_toList] at hu
        have h1c := hone u (by simpa using Array.mem_of_getElem? hu)
        have hc : u.cells = #[u] := by cases u <;> first | rfl | cases h1c
        refine ⟨u, hr, fun j u' hj => ?_, fun e => ?_, fun _ => hc⟩
        · rw [hc] at hj
          cases j with
          | zero => simp at hj; subst hj; rw [hcell]; exact hu
          | succ j => simp at hj
        · rw [ha] at e; cases e
    exact ⟨V, hV, run_loadVar_mem hT h2 h3 h4⟩

/-- A load of a variable. -/
theorem A.load_b {T : TypeId} {x : Operand} {i off : Nat} {cs : List AV} {v : AV} {ti : TI} (hT : ty? P T = some ti) (hx : ev? s x = some (.ptr i off)) (hB : σ.B[i]? = some (.cells cs)) (hv : cut ti.agg ti.size off cs = some v)
    (k : AOps P all draw K rest (.ri i :: acc) ((d, v) :: s) σ) : AOps P all draw K (⟨some d, .load T x, ty, pos, af, none⟩ :: rest) acc s σ :=
  A.step (t := .ri i) rfl ⟨rfl, fun B τ hBi => by
    intro g w a next Q hi ho hn
    have h1 := op1 hx (by simp [Op.operands]) ho
    obtain ⟨b, hb, e⟩ := h1
    obtain ⟨V, hV, hrun⟩ := load_obj (σ := ⟨B, τ⟩) hT hi hb (hBi.trans hB) hv
    unfold Oper.wp
    simp only [execOp, e, Instr.loadAt, Instr.sureAddr, Sem.run_bind, Sem.run_pure, Result.andThen]
    rw [hrun]
    exact hn V w g (Ext.refl g w) hi hV⟩ k

/-- The address of a field of a variable. -/
theorem A.field_b {T : TypeId} {x : Operand} {f i off o n : Nat} {ag : Bool} {ti : TI} {r : Nat} (hT : ty? P T = some ti) (hx : ev? s x = some (.ptr i off)) (hf : ti.fields[f]? = some (o, n, ag)) (hk : ti.kind = .struct) (hn : Nat.blt 0 n = true)
    (hr : off + o = r) (k : AOps P all draw K rest (.pure :: acc) ((d, .ptr i r) :: s) σ) : AOps P all draw K (⟨some d, .fieldAddr T x f, ty, pos, af, none⟩ :: rest) acc s σ :=
  A.step rfl (tpure fun g w a ho => by
    have h1 := op1 hx (by simp [Op.operands]) ho
    obtain ⟨b, hb, e⟩ := h1
    refine ⟨.pointer (some ⟨b, off + o, none⟩), ?_, ⟨b, hb, by rw [hr]⟩⟩
    obtain ⟨info, dd, z, t1, t2, t3, t4, t5, t6, t7, t8, t9, t10, t11, t12, t13⟩ := (ty_ok hT).ex
    have hd : ∃ fs, dd = .struct fs := by rw [hk] at t3; cases dd <;> first | exact ⟨_, rfl⟩ | cases t3
    obtain ⟨fs, rfl⟩ := hd
    rw [← t11] at hf
    simp only [fieldsOf, List.getElem?_map, Option.map_eq_some_iff, Prod.mk.injEq] at hf
    obtain ⟨fd, hfd, rfl, hs, _⟩ := hf
    rw [Array.getElem?_toList] at hfd
    have hin := t13 fs rfl fd (by simpa using Array.mem_of_getElem? hfd)
    have hsz : (sizeOf fd.type).run P w = .ok n w := by
      unfold sizeOf
      cases hi' : P.info? fd.type with
      | none => rw [hi'] at hin; simp at hin
      | some inf =>
        have : P.cellsOf fd.type = inf.size := by simp [Program.cellsOf, hi']
        simp only [Sem.run_bind, run_info hi', Result.andThen]
        rw [← hs, this]
        rfl
    have hn0 : n ≠ 0 := by have := Nat.le_of_ble_eq_true hn; omega
    simp only [execOp, e, Instr.fieldAt, Sem.run_bind, run_underlying t2, Result.andThen, hfd, Instr.sureAddr, Sem.run_pure, fieldPlace, hsz, if_neg hn0, addr_add]) k

/-- The address of a field of data. -/
theorem A.field_r {T : TypeId} {x : Operand} {f o n : Nat} {ag : Bool} {ti : TI} {cs : List AV} {y : AV} (hT : ty? P T = some ti) (hx : ev? s x = some (.rptr (.agg cs))) (hf : ti.fields[f]? = some (o, n, ag)) (hk : ti.kind = .struct) (hn : Nat.blt 0 n = true)
    (hy : cut ag n o cs = some y) (k : AOps P all draw K rest (.pure :: acc) ((d, .rptr y) :: s) σ) : AOps P all draw K (⟨some d, .fieldAddr T x f, ty, pos, af, none⟩ :: rest) acc s σ :=
  A.step rfl (tpure fun g w a ho => by
    have h1 := op1 hx (by simp [Op.operands]) ho
    obtain ⟨b, off, V, e, hm, vs, rfl, hl, hone⟩ := h1
    refine ⟨.pointer (some ⟨b, off + o, none⟩), ?_, ?_⟩
    · obtain ⟨info, dd, z, t1, t2, t3, t4, t5, t6, t7, t8, t9, t10, t11, t12, t13⟩ := (ty_ok hT).ex
      have hd : ∃ fs, dd = .struct fs := by rw [hk] at t3; cases dd <;> first | exact ⟨_, rfl⟩ | cases t3
      obtain ⟨fs, rfl⟩ := hd
      rw [← t11] at hf
      simp only [fieldsOf, List.getElem?_map, Option.map_eq_some_iff, Prod.mk.injEq] at hf
      obtain ⟨fd, hfd, rfl, hs, _⟩ := hf
      rw [Array.getElem?_toList] at hfd
      have hin := t13 fs rfl fd (by simpa using Array.mem_of_getElem? hfd)
      have hsz : (sizeOf fd.type).run P w = .ok n w := by
        unfold sizeOf
        cases hi' : P.info? fd.type with
        | none => rw [hi'] at hin; simp at hin
        | some inf =>
          have : P.cellsOf fd.type = inf.size := by simp [Program.cellsOf, hi']
          simp only [Sem.run_bind, run_info hi', Result.andThen]
          rw [← hs, this]
          rfl
      have hn0 : n ≠ 0 := by have := Nat.le_of_ble_eq_true hn; omega
      simp only [execOp, e, Instr.fieldAt, Sem.run_bind, run_underlying t2, Result.andThen, hfd, Instr.sureAddr, Sem.run_pure, fieldPlace, hsz, if_neg hn0, addr_add]
    · rcases cut_spec hy with ⟨ha, _, rfl, hlen⟩ | ⟨ha, hg⟩
      · refine ⟨b, off + o, .agg ((vs.toList.drop o).take n).toArray, rfl, fun j u hj => ?_, ⟨_, rfl, by simpa using (hl.drop o).take n, fun u hu => ?_⟩⟩
        · simp only [Value.cells, List.getElem?_toArray, List.getElem?_take, List.getElem?_drop, Array.getElem?_toList] at hj
          split at hj
          · have := hm (o + j) u hj
            rwa [← Nat.add_assoc] at this
          · cases hj
        · exact hone u (List.mem_of_mem_drop (List.mem_of_mem_take (i := n) (l := vs.toList.drop o) (by simpa using hu)))
      · obtain ⟨u, hu, hr⟩ := hl.get hg
        rw [Array.getElem?_toList] at hu
        have h1c := hone u (by simpa using Array.mem_of_getElem? hu)
        have hc : u.cells = #[u] := by cases u <;> first | rfl | cases h1c
        refine ⟨b, off + o, u, rfl, fun j u' hj => ?_, hr⟩
        rw [hc] at hj
        cases j with
        | zero => simp at hj; subst hj; exact hm o u hu
        | succ j => simp at hj) k

/-- The field of a struct that is a value. -/
theorem A.field {T : TypeId} {x : Operand} {f o n : Nat} {ag : Bool} {ti : TI} {cs : List AV} {y : AV} (hT : ty? P T = some ti) (hx : ev? s x = some (.agg cs)) (hf : ti.fields[f]? = some (o, n, ag)) (hk : ti.kind = .struct)
    (hy : cut ag n o cs = some y) (k : AOps P all draw K rest (.pure :: acc) ((d, y) :: s) σ) : AOps P all draw K (⟨some d, .field T x f, ty, pos, af, none⟩ :: rest) acc s σ :=
  A.step rfl (tpure fun g w a ho => by
    have h1 := op1 hx (by simp [Op.operands]) ho
    obtain ⟨vs, e, hl, hone⟩ := h1
    obtain ⟨info, dd, z, t1, t2, t3, t4, t5, t6, t7, t8, t9, t10, t11, t12, t13⟩ := (ty_ok hT).ex
    have hd : ∃ fs, dd = .struct fs := by rw [hk] at t3; cases dd <;> first | exact ⟨_, rfl⟩ | cases t3
    obtain ⟨fs, rfl⟩ := hd
    rw [← t11] at hf
    simp only [fieldsOf, List.getElem?_map, Option.map_eq_some_iff, Prod.mk.injEq] at hf
    obtain ⟨fd, hfd, rfl, hs, hag⟩ := hf
    rw [Array.getElem?_toList] at hfd
    have hin := t13 fs rfl fd (by simpa using Array.mem_of_getElem? hfd)
    have hsz : (sizeOf fd.type).run P w = .ok n w := by
      unfold sizeOf
      cases hi' : P.info? fd.type with
      | none => rw [hi'] at hin; simp at hin
      | some inf =>
        have : P.cellsOf fd.type = inf.size := by simp [Program.cellsOf, hi']
        simp only [Sem.run_bind, run_info hi', Result.andThen]
        rw [← hs, this]
        rfl
    have hagg : (isAgg fd.type).run P w = .ok ag w := by
      cases hu : P.underlying fd.type with
      | none => rw [hu] at hin; simp at hin
      | some dd' =>
        rw [hu] at hag
        simp only [Option.map_some, Option.getD_some] at hag
        unfold isAgg
        simp only [Sem.run_bind, run_underlying hu, Result.andThen]
        rw [← hag]
        cases dd' <;> rfl
    rcases cut_spec hy with ⟨ha, _, rfl, hlen⟩ | ⟨ha, hg⟩
    · refine ⟨.agg (vs.extract fd.offset (fd.offset + n)), ?_, ?_⟩
      · simp only [execOp, e, Instr.field, Sem.run_bind, run_underlying t2, Result.andThen, hfd, asAgg, Sem.run_pure, part, hagg, ha, if_true, hsz]
      · have he : (vs.extract fd.offset (fd.offset + n)).toList = (vs.toList.drop fd.offset).take n := by
          rw [Array.toList_extract, List.extract_eq_take_drop, Nat.add_sub_cancel_left]
        exact ⟨_, rfl, by rw [he]; exact (hl.drop _).take n, fun u hu => hone u (by rw [he] at hu; exact List.mem_of_mem_drop (List.mem_of_mem_take hu))⟩
    · obtain ⟨u, hu, hr⟩ := hl.get hg
      rw [Array.getElem?_toList] at hu
      refine ⟨u, ?_, hr⟩
      simp only [execOp, e, Instr.field, Sem.run_bind, run_underlying t2, Result.andThen, hfd, asAgg, Sem.run_pure, part, hagg, ha, Bool.false_eq_true, if_false, hu]) k

/-- The length of a slice, of a text. -/
theorem A.len {T : TypeId} {x : Operand} {xs : List AV} {tk : Tk} {n : Int} {ti : TI} (hT : ty? P T = some ti) (hk : ti.kind = .slice) (hx : ev? s x = some (.slice xs tk)) (hn : (xs.length : Int) = n)
    (k : AOps P all draw K rest (.pure :: acc) ((d, .int .i64 n) :: s) σ) : AOps P all draw K (⟨some d, .call ⟨.builtin .len, #[x], #[T]⟩, ty, pos, af, none⟩ :: rest) acc s σ :=
  A.step rfl (tpure fun g w a ho => by
    have h1 := op1 hx (by simp [Op.operands, Call.operands]) ho
    obtain ⟨p, cap, sz, Vs, e, h2, h3, h4, h5, h6⟩ := h1
    refine ⟨.int .i64 xs.length, ?_, by rw [hn]; rfl⟩
    obtain ⟨info, dd, z, t1, t2, t3, _⟩ := (ty_ok hT).ex
    have hd : ∃ e, dd = .slice e := by rw [hk] at t3; cases dd <;> first | exact ⟨_, rfl⟩ | cases t3
    obtain ⟨el, rfl⟩ := hd
    simp [execOp, resolve, invoke, builtin, Builtin.len_, e, run_underlying t2, goInt, Result.andThen, h5.length]) k
theorem A.lens {T : TypeId} {x : Operand} {xs : List UInt8} {n : Int} {ti : TI} (hT : ty? P T = some ti) (hk : ti.kind = .string) (hx : ev? s x = some (.str xs)) (hn : (xs.length : Int) = n)
    (k : AOps P all draw K rest (.pure :: acc) ((d, .int .i64 n) :: s) σ) : AOps P all draw K (⟨some d, .call ⟨.builtin .len, #[x], #[T]⟩, ty, pos, af, none⟩ :: rest) acc s σ :=
  A.step rfl (tpure fun g w a ho => by
    have h1 := op1 hx (by simp [Op.operands, Call.operands]) ho
    have e : a.eval x = .string ⟨xs.toArray⟩ := h1
    refine ⟨.int .i64 xs.length, ?_, by rw [hn]; rfl⟩
    obtain ⟨info, dd, z, t1, t2, t3, _⟩ := (ty_ok hT).ex
    have hd : dd = .string := by rw [hk] at t3; cases dd <;> first | rfl | cases t3
    subst hd
    have hsz : (⟨xs.toArray⟩ : ByteArray).size = xs.length := by simp [ByteArray.size]
    simp [execOp, resolve, invoke, builtin, Builtin.len_, e, run_underlying t2, goInt, Result.andThen, hsz]) k

theorem index_run {T : TypeId} {x i : Operand} {xs : List AV} {tk : Tk} {ik : IntKind} {n : Int} {j : Nat} {y : AV} {ti te : TI} (hT : ty? P T = some ti) (hk : ti.kind = .slice) (hE : ty? P ti.elem = some te)
    (hj : n = (j : Int)) (hy : xs[j]? = some y) (hf : fits te.agg te.size y = true) {g : Gh} {w : World} {a : Act} (h1 : Rep g w (.slice xs tk) (a.eval x)) (h2 : a.eval i = .int ik n) :
    ∃ v, (execOp a.eval ⟨some d, .indexAddr T x i, ty, pos, af, none⟩).run P w = .ok (.value v) w ∧ Rep g w (.rptr y) v := by
    obtain ⟨p, cap, sz, Vs, e, c1, c2, c3, hl, c5, c6⟩ := h1
    obtain ⟨V, hV, hr⟩ := hl.get hy
    have hjl : j < Vs.length := (List.getElem?_eq_some_iff.1 hV).1
    cases p with
    | none => have := (c5 rfl).1; subst this; simp at hjl
    | some q =>
      obtain ⟨hq, hm⟩ := c6 q rfl
      obtain ⟨m1, m2⟩ := hm j V hV
      obtain ⟨f1, _⟩ := fits_spec hf hr
      obtain ⟨info, dd, z, t1, t2, t3, t4, _⟩ := (ty_ok hT).ex
      have hd : ∃ e, dd = .slice e := by rw [hk] at t3; cases dd <;> first | exact ⟨_, rfl⟩ | cases t3
      obtain ⟨el, rfl⟩ := hd
      have hel : el = ti.elem := t4
      subst hel
      obtain ⟨qb, qo, qs⟩ := q
      cases (show qs = none from hq.resolve_right (fun e => by rw [e] at hjl; simp at hjl))
      refine ⟨.pointer (some ⟨qb, qo + j * sz, none⟩), ?_, ⟨qb, qo + j * sz, V, rfl, m2, hr⟩⟩
      rw [← m1, f1]
      subst hj
      simp [execOp, Instr.indexAt, e, h2, asIntOf, run_underlying t2, Result.andThen, run_sizeOf' hE, hjl, addr_add]
/-- The address of an element. -/
theorem A.index_r {T : TypeId} {x i : Operand} {xs : List AV} {tk : Tk} {ik : IntKind} {n : Int} {j : Nat} {y : AV} {ti te : TI} (hT : ty? P T = some ti) (hk : ti.kind = .slice) (hE : ty? P ti.elem = some te)
    (hx : ev? s x = some (.slice xs tk)) (hi : ev? s i = some (.int ik n)) (hj : n = (j : Int)) (hy : xs[j]? = some y) (hf : fits te.agg te.size y = true)
    (k : AOps P all draw K rest (.pure :: acc) ((d, .rptr y) :: s) σ) : AOps P all draw K (⟨some d, .indexAddr T x i, ty, pos, af, none⟩ :: rest) acc s σ :=
  A.step rfl (tpure fun g w a ho => by
    have h1 := op1 hx (by simp [Op.operands]) ho
    have h2 : a.eval i = .int ik n := op1 hi (by simp [Op.operands]) ho
    exact index_run hT hk hE hj hy hf h1 h2) k

/-- A byte of a text. -/
theorem A.index_s {T : TypeId} {x i : Operand} {xs : List UInt8} {ik : IntKind} {n : Int} {j : Nat} {y : UInt8} {ti : TI} (hT : ty? P T = some ti) (hk : ti.kind = .string)
    (hx : ev? s x = some (.str xs)) (hi : ev? s i = some (.int ik n)) (hj : n = (j : Int)) (hy : xs[j]? = some y)
    (k : AOps P all draw K rest (.pure :: acc) ((d, .int .u8 (y.toNat : Int)) :: s) σ) : AOps P all draw K (⟨some d, .index T x i, ty, pos, af, none⟩ :: rest) acc s σ :=
  A.step rfl (tpure fun g w a ho => by
    have h1 : a.eval x = .string ⟨xs.toArray⟩ := op1 hx (by simp [Op.operands]) ho
    have h2 : a.eval i = .int ik n := op1 hi (by simp [Op.operands]) ho
    obtain ⟨info, dd, z, t1, t2, t3, t4, _⟩ := (ty_ok hT).ex
    have hd : dd = .string := by rw [hk] at t3; cases dd <;> first | rfl | cases t3
    subst hd
    refine ⟨.int .u8 (y.toNat : Int), ?_, rfl⟩
    subst hj
    have hb : (⟨xs.toArray⟩ : ByteArray)[j]? = some y := by
      have hlt := (List.getElem?_eq_some_iff.1 hy).1
      rw [getElem?_def]
      have hs : j < (⟨xs.toArray⟩ : ByteArray).size := by simpa [ByteArray.size] using hlt
      rw [dif_pos hs]
      congr 1
      exact (List.getElem?_eq_some_iff.1 hy).2
    simp [execOp, Instr.index, h1, h2, asIntOf, run_underlying t2, Result.andThen, hb]) k
end rules
end Go.Av
