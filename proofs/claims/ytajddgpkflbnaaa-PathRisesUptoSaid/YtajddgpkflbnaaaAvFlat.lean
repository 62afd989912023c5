/-
  Elements laid flat; structs and slices that are built out of parts.
-/
import Derived.Test.YtajddgpkflbnaaaAvWrite
set_option linter.unusedVariables false
namespace Go.Av
open Go
set_option linter.unusedSectionVars false
variable [Globals]

/-- The cells of elements, one behind the other. -/
def flat (Vs : List Value) : List Value := Vs.flatMap fun V => V.cells.toList

theorem flat_cons (V : Value) (Vs : List Value) : flat (V :: Vs) = V.cells.toList ++ flat Vs := rfl
theorem flat_append (Us Vs : List Value) : flat (Us ++ Vs) = flat Us ++ flat Vs := by simp [flat]

theorem flat_length {sz : Nat} : ∀ {Vs : List Value}, (∀ V ∈ Vs, V.cells.size = sz) → (flat Vs).length = Vs.length * sz
  | [], _ => by simp [flat]
  | V :: Vs, h => by
    rw [flat_cons, List.length_append, flat_length (fun V hV => h V (by simp [hV])), List.length_cons, Nat.succ_mul]
    have := h V (by simp)
    simp [this]; omega

theorem flat_get {sz : Nat} : ∀ {Vs : List Value} {i j : Nat} {V : Value}, (∀ V ∈ Vs, V.cells.size = sz) → Vs[i]? = some V → j < sz → (flat Vs)[i * sz + j]? = V.cells[j]?
  | V :: Vs, 0, j, V', h, hi, hj => by
    simp at hi
    subst hi
    have := h V (by simp)
    rw [flat_cons, List.getElem?_append_left (by simp; omega)]
    simp
  | V :: Vs, i + 1, j, V', h, hi, hj => by
    have hV := h V (by simp)
    rw [flat_cons, List.getElem?_append_right (by simp [Nat.succ_mul]; omega)]
    have e : (i + 1) * sz + j - V.cells.toList.length = i * sz + j := by simp [Nat.succ_mul]; omega
    rw [e]
    exact flat_get (fun V hV => h V (by simp [hV])) (by simpa using hi) hj
  | [], i, _, _, _, hi, _ => by simp at hi

/-- Each place of the flat list lies in some element. -/
theorem flat_in {sz : Nat} {Vs : List Value} {k : Nat} {u : Value} (h : ∀ V ∈ Vs, V.cells.size = sz) (hk : (flat Vs)[k]? = some u) : ∃ i j V, Vs[i]? = some V ∧ V.cells[j]? = some u ∧ k = i * sz + j := by
  have hlt : k < Vs.length * sz := by
    have := (List.getElem?_eq_some_iff.1 hk).1
    rwa [flat_length h] at this
  have hsz : 0 < sz := by
    rcases Nat.eq_zero_or_pos sz with e | e
    · subst e; simp at hlt
    · exact e
  have hi : k / sz < Vs.length := Nat.div_lt_of_lt_mul (by rwa [Nat.mul_comm])
  have he : k = k / sz * sz + k % sz := by have := Nat.div_add_mod k sz; rw [Nat.mul_comm] at this; exact this.symm
  refine ⟨k / sz, k % sz, Vs[k / sz], List.getElem?_eq_getElem hi, ?_, he⟩
  rw [← flat_get h (List.getElem?_eq_getElem hi) (Nat.mod_lt _ hsz), ← he]
  exact hk

theorem InMemE.flat {g : Gh} {w : World} {b sz o : Nat} {Vs : List Value} (hm : InMemE g w b sz o Vs) {k : Nat} {u : Value} (hk : (flat Vs)[k]? = some u) : g.im b (o + k) ∧ w.cell? ⟨b, o + k, none⟩ = some u ∧ u.oneCell' = true := by
  obtain ⟨i, j, V, h1, h2, h3⟩ := flat_in (sz := sz) (fun V hV => by obtain ⟨i, hi⟩ := List.getElem?_of_mem hV; exact (hm i V hi).1) hk
  have := (hm i V h1).2 j u h2
  rw [h3, ← Nat.add_assoc]
  exact this

/-- Elements that lie flat in a block. -/
theorem inMemE_of_flat {g : Gh} {w : World} {b sz o : Nat} {Vs : List Value} (h : ∀ V ∈ Vs, V.cells.size = sz) (hm : ∀ (k : Nat) (u : Value), (flat Vs)[k]? = some u → g.im b (o + k) ∧ w.cell? ⟨b, o + k, none⟩ = some u ∧ u.oneCell' = true) : InMemE g w b sz o Vs := by
  intro i V hi
  refine ⟨h V (List.mem_of_getElem? hi), fun j u hj => ?_⟩
  have hj' : j < sz := by
    have := h V (List.mem_of_getElem? hi)
    have := (Array.getElem?_eq_some_iff.1 hj).1
    omega
  have := hm (i * sz + j) u (by rw [flat_get h hi hj']; exact hj)
  rwa [← Nat.add_assoc] at this

/-- Cells written one by one into an array. -/
theorem fold_over : ∀ (vs : List Value) (off k : Nat) (cs : Array Value), off + k + vs.length ≤ cs.size →
    ((vs.zipIdx k).foldl (fun cs (x : Value × Nat) => cs.setIfInBounds (off + x.2) x.1) cs).toList = cs.toList.take (off + k) ++ vs ++ cs.toList.drop (off + k + vs.length)
  | [], off, k, cs, h => by simp
  | v :: vs, off, k, cs, h => by
    simp only [List.length_cons] at h
    rw [List.zipIdx_cons, List.foldl_cons, fold_over vs off (k + 1) _ (by simp; omega)]
    have hlt : off + k < cs.toList.length := by simp; omega
    simp only [Array.toList_setIfInBounds, List.length_cons]
    rw [show off + (k + 1) = (off + k) + 1 by omega, List.take_succ_eq_append_getElem (by simpa using hlt), List.take_set_of_le (Nat.le_refl _), List.getElem_set_self, List.drop_set_of_lt (by omega)]
    rw [show off + k + 1 + vs.length = off + k + (vs.length + 1) by omega]
    simp

def fillK {α : Type} (place : Nat → Option (Nat × Nat)) (s : Slots) : List (Nat × Operand) → List AV → (List AV → Option α) → Option α
  | [], cs, k => k cs
  | (i, x) :: rest, cs, k => match place i with
    | none => none
    | some (off, size) => match ev? s x with
      | none => none
      | some v => cellsK v fun vs => bif Nat.beq vs.length size then overK off vs cs (fun cs' => fillK place s rest cs' k) else none

theorem fillK_spec {α : Type} {place : Nat → Option (Nat × Nat)} {s : Slots} {g : Gh} {w : World} {a : Act} : ∀ (ps : List (Nat × Operand)) (cs : List AV) (cells : Array Value) (k : List AV → Option α) (r : α), fillK place s ps cs k = some r →
    (∀ p ∈ ps, Rep g w (ev s p.2) (a.eval p.2)) → RepL g w cs cells.toList → (∀ u ∈ cells.toList, u.oneCell' = true) →
    ∃ cs' cells', Instr.fill place cells (ps.map fun p => (p.1, a.eval p.2)) = some cells' ∧ cells'.size = cells.size ∧ RepL g w cs' cells'.toList ∧ (∀ u ∈ cells'.toList, u.oneCell' = true) ∧ k cs' = some r
  | [], cs, cells, k, r, h, _, hl, h1 => ⟨cs, cells, rfl, rfl, hl, h1, h⟩
  | (i, x) :: rest, cs, cells, k, r, h, hp, hl, h1 => by
    unfold fillK at h
    cases hpl : place i with
    | none => rw [hpl] at h; cases h
    | some os =>
      obtain ⟨off, size⟩ := os
      simp only [hpl] at h
      cases hv : ev? s x with
      | none => rw [hv] at h; cases h
      | some v =>
        simp only [hv] at h
        have hrep : Rep g w v (a.eval x) := by have := hp (i, x) (by simp); rwa [ev_of hv] at this
        obtain ⟨vs, h2, h3, h4⟩ := cellsK_spec h hrep
        cases hb : Nat.beq vs.length size with
        | false => rw [hb] at h2; cases h2
        | true =>
          rw [hb] at h2
          obtain ⟨h5, h6⟩ := overK_spec _ _ _ _ _ h2
          have hsz : vs.length = size := Nat.eq_of_beq_eq_true hb
          have hlen : (a.eval x).cells.size = vs.length := by simpa using h3.length
          have hcl : cells.size = cs.length := by simpa using hl.length
          have hfold := fold_over (a.eval x).cells.toList off 0 cells (by simp; omega)
          let cells1 := (a.eval x).cells.zipIdx.foldl (fun cs (x : Value × Nat) => cs.setIfInBounds (off + x.2) x.1) cells
          have hc1 : cells1.toList = cells.toList.take off ++ (a.eval x).cells.toList ++ cells.toList.drop (off + vs.length) := by
            show ((a.eval x).cells.zipIdx.foldl _ cells).toList = _
            rw [← Array.foldl_toList, Array.toList_zipIdx]
            rw [hfold]
            simp [hlen]
          have hcs1 : cells1.size = cells.size := by
            have := congrArg List.length hc1
            simp at this
            omega
          have hrl : RepL g w (cs.take off ++ vs ++ cs.drop (off + vs.length)) cells1.toList := by
            rw [hc1]
            exact ((hl.take off).append h3).append (hl.drop _)
          have hone1 : ∀ u ∈ cells1.toList, u.oneCell' = true := by
            intro u hu
            rw [hc1] at hu
            simp only [List.mem_append] at hu
            rcases hu with (hu | hu) | hu
            · exact h1 u (List.mem_of_mem_take hu)
            · exact h4 u hu
            · exact h1 u (List.mem_of_mem_drop hu)
          obtain ⟨cs', cells', e1, e2, e3, e4, e5⟩ := fillK_spec rest _ cells1 k r h6 (fun p hpm => hp p (by simp [hpm])) hrl hone1
          refine ⟨cs', cells', ?_, e2.trans hcs1, e3, e4, e5⟩
          simp only [List.map_cons, Instr.fill, hpl]
          rw [if_neg (by simp only [hlen, hsz, ne_eq, not_true_eq_false, decide_false, Bool.false_or, decide_eq_true_eq]; omega)]
          exact e1

section rules
variable {P : Program} [Lay P] {all : Array Oper} {draw : Bool} {K : AX → Slots → St → Prop} {rest : List Oper} {acc : List Tag} {s : Slots} {σ : St}
variable {d : Tmp} {ty : TypeId} {pos : String} {af : Array Edge}

omit [Lay P] in
theorem mapM_places : ∀ fs : List Field, (∀ f ∈ fs, (P.info? f.type).isSome = true) → fs.mapM (fun f => (P.info? f.type).map fun i => (f.offset, i.size)) = some (fs.map fun f => (f.offset, P.cellsOf f.type))
  | [], _ => rfl
  | f :: fs, h => by
    have h1 := h f (by simp)
    cases hi : P.info? f.type with
    | none => rw [hi] at h1; cases h1
    | some i =>
      rw [List.mapM_cons, mapM_places fs (fun f hf => h f (by simp [hf]))]
      simp [hi, Program.cellsOf]

def placeOf (fields : List (Nat × Nat × Bool)) (i : Nat) : Option (Nat × Nat) :=
  match fields[i]? with
  | some (o, n, _) => some (o, n)
  | none => none

/-- A struct that is built out of its fields. -/
theorem A.build {T : TypeId} {parts : Array (Nat × Operand)} {ti : TI} {zs : List AV} {v : AV} (hT : ty? P T = some ti) (hk : ti.kind = .struct) (hz : ti.zero = .agg zs) (hv : fillK (placeOf ti.fields) s parts.toList zs (fun cs => some (.agg cs)) = some v)
    (k : AOps P all draw K rest (.pure :: acc) ((d, v) :: s) σ) : AOps P all draw K (⟨some d, .build T parts, ty, pos, af, none⟩ :: rest) acc s σ :=
  A.step rfl (tpure fun g w a ho => by
    obtain ⟨info, dd, z, t1, t2, t3, t4, t5, t6, t7, t8, t9, t10, t11, t12, t13⟩ := (ty_ok hT).ex
    have hd : ∃ fs, dd = .struct fs := by rw [hk] at t3; cases dd <;> first | exact ⟨_, rfl⟩ | cases t3
    obtain ⟨fs, rfl⟩ := hd
    have hzr : Rep g w (.agg zs) z := by rw [← hz, ← t9]; exact rep_ofConst g w z
    obtain ⟨zv, rfl, hzl, hz1⟩ := hzr
    obtain ⟨cs', cells', e1, e2, e3, e4, e5⟩ := fillK_spec (g := g) (w := w) (a := a) parts.toList zs zv _ v hv (fun p hp => ho p.2 (by simp only [Op.operands, List.toList_toArray]; exact List.mem_map.2 ⟨p, hp, rfl⟩)) hzl hz1
    have hv' : v = .agg cs' := (Option.some.inj e5).symm
    subst hv'
    refine ⟨.agg cells', ?_, ⟨cells', rfl, e3, e4⟩⟩
    have hb : P.built T (parts.map fun (i, x) => (i, a.eval x)).toList = some cells' := by
      unfold Program.built
      simp only [t1, t2, t8, mapM_places fs.toList (fun f hf => (t13 fs rfl f hf).1)]
      rw [← e1]
      congr 1
      · funext i
        rw [← t11]
        unfold placeOf fieldsOf
        rw [List.getElem?_map]
        cases hfi : fs.toList[i]? <;> simp [hfi] <;> simp_all
      · simp
    simp only [execOp, Sem.run_bind, run_build w T _ cells' hb, Result.andThen]
    rfl) k

/-- Cells in groups of n: elements. -/
def chunkK {α : Type} (agg : Bool) (n : Nat) : Nat → List AV → (List AV → Option α) → Option α
  | 0, _, k => k []
  | m + 1, cs, k => match cut agg n 0 cs with
    | some x => chunkK agg n m (dropL n cs) fun r => k (x :: r)
    | none => none

theorem chunkK_spec {α : Type} {agg : Bool} {n : Nat} (h1 : agg = false → n = 1) {g : Gh} {w : World} : ∀ (m : Nat) (cs : List AV) (vals : List Value) (k : List AV → Option α) (r : α), chunkK agg n m cs k = some r → RepL g w cs vals → (∀ u ∈ vals, u.oneCell' = true) →
    ∃ xs Vs, k xs = some r ∧ Vs.length = m ∧ RepL g w xs Vs ∧ (∀ V ∈ Vs, V.cells.size = n) ∧ flat Vs = vals.take (m * n)
  | 0, cs, vals, k, r, h, hl, ho => ⟨[], [], h, rfl, rfl, by simp, by simp [flat]⟩
  | m + 1, cs, vals, k, r, h, hl, ho => by
    unfold chunkK at h
    cases hc : cut agg n 0 cs with
    | none => rw [hc] at h; cases h
    | some x =>
      simp only [hc] at h
      rw [dropL_eq] at h
      obtain ⟨xs, Vs, e1, e2, e3, e4, e5⟩ := chunkK_spec h1 m _ (vals.drop n) _ r h (hl.drop n) (fun u hu => ho u (List.mem_of_mem_drop hu))
      rcases cut_spec hc with ⟨ha, _, rfl, hlen⟩ | ⟨ha, hg⟩
      · have hl2 := hl.take n
        have hsz : (vals.take n).length = n := by rw [hl2.length, List.length_take]; simp at hlen; omega
        refine ⟨_, .agg (vals.take n).toArray :: Vs, e1, by simp [e2], ⟨_, _, rfl, ⟨_, rfl, by simpa using hl2, fun u hu => ho u (List.mem_of_mem_take (by simpa using hu))⟩, e3⟩, ?_, ?_⟩
        · intro V hV
          simp only [List.mem_cons] at hV
          rcases hV with rfl | hV
          · simpa [Value.cells] using hsz
          · exact e4 V hV
        · rw [flat_cons, e5, Nat.succ_mul, Nat.add_comm, List.take_add]
          simp [Value.cells]
      · obtain ⟨u, hu, hr⟩ := hl.get hg
        have hn := h1 ha
        subst hn
        cases vals with
        | nil => simp at hu
        | cons v vals =>
          simp at hu
          subst hu
          have h1c := ho v (by simp)
          have hcv : v.cells = #[v] := by cases v <;> first | rfl | cases h1c
          refine ⟨_, v :: Vs, e1, by simp [e2], ⟨_, _, rfl, hr, e3⟩, ?_, ?_⟩
          · intro V hV
            simp only [List.mem_cons] at hV
            rcases hV with rfl | hV
            · rw [hcv]; rfl
            · exact e4 V hV
          · rw [flat_cons, e5, hcv]
            simp

/-- A slice that is built out of its elements: there is no room behind it. -/
theorem A.buildSlice {T : TypeId} {len : Nat} {parts : Array (Nat × Operand)} {ti te : TI} {v : AV} (hT : ty? P T = some ti) (hk : ti.kind = .slice) (hE : ty? P ti.elem = some te) (hone : (te.agg || Nat.beq te.size 1) = true) (hsmall : Nat.ble (len * te.size) 16777216 = true) (hlen : Nat.ble len 16777216 = true)
    (hv : fillK (fun i => some (i * te.size, te.size)) s parts.toList (List.replicate (len * te.size) .undef) (fun cs => chunkK te.agg te.size len cs fun xs => some (.slice xs .full)) = some v)
    (k : AOps P all draw K rest (.pure :: acc) ((d, v) :: s) σ) : AOps P all draw K (⟨some d, .buildSlice T len parts, ty, pos, af, none⟩ :: rest) acc s σ :=
  A.step (t := .pure) rfl ⟨rfl, fun τ => by
    intro g w a next Q hI ho hn
    obtain ⟨info, dd, z0, t1, t2, t3, t4, _⟩ := (ty_ok hT).ex
    have hd : ∃ e, dd = .slice e := by rw [hk] at t3; cases dd <;> first | exact ⟨_, rfl⟩ | cases t3
    obtain ⟨el, rfl⟩ := hd
    have hel : el = ti.elem := t4
    subst hel
    obtain ⟨z, hz, hz1, hz2, hz3⟩ := run_zero' hE w
    -- the cells as they are laid first
    let z' : Array Value := if len * te.size = 0 then #[] else z.cells
    let c0 : Array Value := (Array.range (len * te.size)).map (fun i => z'[i % z'.size]!)
    have hc0 : ∀ u ∈ c0.toList, u.oneCell' = true := by
      intro u hu
      simp only [c0, Array.toList_map, List.mem_map, Array.mem_toList_iff, Array.mem_range] at hu
      obtain ⟨i, hi, rfl⟩ := hu
      have hne : len * te.size ≠ 0 := by omega
      have hzz : z' = z.cells := if_neg hne
      rw [hzz]
      have hpos : 0 < z.cells.size := by
        rw [hz2]
        rcases Nat.eq_zero_or_pos te.size with e | e
        · rw [e] at hne; simp at hne
        · exact e
      have hlt : i % z.cells.size < z.cells.size := Nat.mod_lt _ hpos
      rw [getElem!_pos z.cells _ hlt]
      exact hz3 _ (by simp)
    have hrl0 : RepL g w (List.replicate (len * te.size) .undef) c0.toList := by
      have : ∀ (l : List Value), RepL g w (List.replicate l.length .undef) l := by
        intro l
        induction l with
        | nil => rfl
        | cons v l ih => exact ⟨v, l, rfl, trivial, ih⟩
      have h := this c0.toList
      rwa [show c0.toList.length = len * te.size by simp [c0]] at h
    obtain ⟨cs', cells', e1, e2, e3, e4, e5⟩ := fillK_spec (g := g) (w := w) (a := a) parts.toList _ c0 _ v hv (fun p hp => ho p.2 (by simp only [Op.operands, List.toList_toArray]; exact List.mem_map.2 ⟨p, hp, rfl⟩)) hrl0 hc0
    have hsz1 : te.agg = false → te.size = 1 := by
      intro e
      rw [e] at hone
      exact Nat.eq_of_beq_eq_true (by simpa using hone)
    obtain ⟨xs, Vs, f1, f2, f3, f4, f5⟩ := chunkK_spec hsz1 len cs' cells'.toList _ v e5 e3 e4
    have hv' : v = .slice xs .full := (Option.some.inj f1).symm
    subst hv'
    have hcs : cells'.size = len * te.size := by rw [e2]; simp [c0]
    have hflat : flat Vs = cells'.toList := by rw [f5, List.take_of_length_le]; simp [hcs]
    obtain ⟨n1, n2⟩ := new_data hI cells' ti.elem cells'.size (Nat.le_refl _)
    have hrun : (execOp a.eval ⟨some d, .buildSlice T len parts, ty, pos, af, none⟩).run P w = .ok (.value (.slice (some ⟨w.heap.size, 0, none⟩) len len)) (pushW w (.cells cells' ti.elem)) := by
      have hs : ¬ (len * te.size > 2 ^ 24) := by
        have := Nat.le_of_ble_eq_true hsmall
        omega
      have hfill : ∀ zz : Array Value, zz = z' → Instr.fill (fun i => some (i * te.size, te.size)) ((Array.range (len * te.size)).map (fun x => zz[x % zz.size]!)) (parts.map fun x => (x.1, a.eval x.2)).toList = some cells' := by
        intro zz hzz
        subst hzz
        rw [← e1]
        congr 1
        simp
      simp only [execOp, Instr.buildSlice, Sem.run_bind, run_underlying t2, Result.andThen, run_sizeOf' hE, if_neg hs]
      by_cases hne : len * te.size = 0
      · have h0 := hfill #[] (show #[] = z' from (if_pos hne).symm)
        rw [if_pos hne]
        simp only [Sem.run_bind, Sem.run_pure, Result.andThen, h0]
        rfl
      · have h0 := hfill z.cells (show z.cells = z' from (if_neg hne).symm)
        rw [if_neg hne]
        simp only [Sem.run_bind, Sem.run_pure, Result.andThen, hz, h0]
        rfl
    unfold Oper.wp
    rw [hrun]
    refine hn _ _ _ n1 n2 ⟨some ⟨w.heap.size, 0, none⟩, len, te.size, Vs, by rw [f2], by rw [f2]; exact Nat.le_refl _, ?_, f2, RepL.mono n1.le _ _ f3, (fun h => by cases h), fun p hp => ?_⟩
    · have := Nat.le_of_ble_eq_true hlen
      unfold maxLen
      omega
    · cases hp
      refine ⟨.inl rfl, inMemE_of_flat f4 fun k u hk' => ?_⟩
      rw [hflat] at hk'
      have hlt : k < cells'.size := by have := (List.getElem?_eq_some_iff.1 hk').1; simpa using this
      refine ⟨.inr ⟨rfl, by simpa using hlt⟩, ?_, e4 u (List.mem_of_getElem? hk')⟩
      show (pushW w (.cells cells' ti.elem)).cell? ⟨w.heap.size, 0 + k, none⟩ = some u
      rw [Nat.zero_add, new_data_cell]
      simpa using hk'⟩ k
end rules
end Go.Av
