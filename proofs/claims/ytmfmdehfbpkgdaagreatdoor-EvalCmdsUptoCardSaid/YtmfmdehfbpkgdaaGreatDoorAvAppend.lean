/-
  Elements laid flat; structs and slices that are built out of parts.
-/
import Derived.Laws.Append
import Derived.Test.YtmfmdehfbpkgdaaGreatDoorAvWrite
set_option linter.unusedVariables false
namespace Go.Av
open Go
set_option linter.unusedSectionVars false
variable [Globals]
def flat (Vs : List Value) : List Value := Vs.flatMap fun V => V.cells.toList
theorem flat_cons (V : Value) (Vs : List Value) : flat (V :: Vs) = V.cells.toList ++ flat Vs := rfl
theorem flat_append (Us Vs : List Value) : flat (Us ++ Vs) = flat Us ++ flat Vs := by simp [flat]
theorem flat_length {sz : Nat} : ∀ {Vs : List Value}, (∀ V ∈ Vs, V.cells.size = sz) → (flat Vs).length = Vs.length * sz
  | [], _ => by simp [flat]
  | V :: Vs, h => by
    rw [flat_cons, List.length_append, flat_length (fun V hV => h V (by simp [hV])), List.length_cons, Nat.succ_mul]
    have := h V (by simp)
    simp [this]; omega
theorem flat_get {sz : Nat} : ∀ {Vs : List Value} {i j : Nat} {V : Value}, (∀ V ∈ Vs, V.cells.size = sz) → Vs[i]? = some V → j < sz → (flat Vs)[i * sz + j]? = V.cells[j]?
  | V :: Vs, 0, j, V', h, hi, hj => by
    simp at hi
    subst hi
    have := h V (by simp)
    rw [flat_cons, List.getElem?_append_left (by simp; omega)]
    simp
  | V :: Vs, i + 1, j, V', h, hi, hj => by
    have hV := h V (by simp)
    rw [flat_cons, List.getElem?_append_right (by simp [Nat.succ_mul]; omega)]
    have e : (i + 1) * sz + j - V.cells.toList.length = i * sz + j := by simp [Nat.succ_mul]; omega
    rw [e]
    exact flat_get (fun V hV => h V (by simp [hV])) (by simpa using hi) hj
  | [], i, _, _, _, hi, _ => by simp at hi
theorem flat_in {sz : Nat} {Vs : List Value} {k : Nat} {u : Value} (h : ∀ V ∈ Vs, V.cells.size = sz) (hk : (flat Vs)[k]? = some u) : ∃ i j V, Vs[i]? = some V ∧ V.cells[j]? = some u ∧ k = i * sz + j := by
  have hlt : k < Vs.length * sz := by
    have := (List.getElem?_eq_some_iff.1 hk).1
    rwa [flat_length h] at this
  have hsz : 0 < sz := by
    rcases Nat.eq_zero_or_pos sz with e | e
    · subst e; simp at hlt
    · exact e
  have hi : k / sz < Vs.length := Nat.div_lt_of_lt_mul (by rwa [Nat.mul_comm])
  have he : k = k / sz * sz + k % sz := by have := Nat.div_add_mod k sz; rw [Nat.mul_comm] at this; exact this.symm
  refine ⟨k / sz, k % sz, Vs[k / sz], List.getElem?_eq_getElem hi, ?_, he⟩
  rw [← flat_get h (List.getElem?_eq_getElem hi) (Nat.mod_lt _ hsz), ← he]
  exact hk
theorem InMemE.flat {g : Gh} {w : World} {b sz o : Nat} {Vs : List Value} (hm : InMemE g w b sz o Vs) {k : Nat} {u : Value} (hk : (flat Vs)[k]? = some u) : g.im b (o + k) ∧ w.cell? ⟨b, o + k, none⟩ = some u ∧ u.oneCell' = true := by
  obtain ⟨i, j, V, h1, h2, h3⟩ := flat_in (sz := sz) (fun V hV => by obtain ⟨i, hi⟩ := List.getElem?_of_mem hV; exact (hm i V hi).1) hk
  have := (hm i V h1).2 j u h2
  rw [h3, ← Nat.add_assoc]
  exact this
theorem inMemE_of_flat {g : Gh} {w : World} {b sz o : Nat} {Vs : List Value} (h : ∀ V ∈ Vs, V.cells.size = sz) (hm : ∀ (k : Nat) (u : Value), (flat Vs)[k]? = some u → g.im b (o + k) ∧ w.cell? ⟨b, o + k, none⟩ = some u ∧ u.oneCell' = true) : InMemE g w b sz o Vs := by
  intro i V hi
  refine ⟨h V (List.mem_of_getElem? hi), fun j u hj => ?_⟩
  have hj' : j < sz := by
    have := h V (List.mem_of_getElem? hi)
    have := (Array.getElem?_eq_some_iff.1 hj).1
    omega
  have := hm (i * sz + j) u (by rw [flat_get h hi hj']; exact hj)
  rwa [← Nat.add_assoc] at this
theorem fold_over : ∀ (vs : List Value) (off k : Nat) (cs : Array Value), off + k + vs.length ≤ cs.size →
    ((vs.zipIdx k).foldl (fun cs (x : Value × Nat) => cs.setIfInBounds (off + x.2) x.1) cs).toList = cs.toList.take (off + k) ++ vs ++ cs.toList.drop (off + k + vs.length)
  | [], off, k, cs, h => by simp
  | v :: vs, off, k, cs, h => by
    simp only [List.length_cons] at h
    rw [List.zipIdx_cons, List.foldl_cons, fold_over vs off (k + 1) _ (by simp; omega)]
    have hlt : off + k < cs.toList.length := by simp; omega
    simp only [Array.toList_setIfInBounds, List.length_cons]
    rw [show off + (k + 1) = (off + k) + 1 by omega, List.take_succ_eq_append_getElem (by simpa using hlt), List.take_set_of_le (Nat.le_refl _), List.getElem_set_self, List.drop_set_of_lt (by omega)]
    rw [show off + k + 1 + vs.length = off + k + (vs.length + 1) by omega]
    simp
def fillK {α : Type} (place : Nat → Option (Nat × Nat)) (s : Slots) : List (Nat × Operand) → List AV → (List AV → Option α) → Option α
  | [], cs, k => k cs
  | (i, x) :: rest, cs, k => match place i with
    | none => none
    | some (off, size) => match ev? s x with
      | none => none
      | some v => cellsK v fun vs => bif Nat.beq vs.length size then overK off vs cs (fun cs' => fillK place s rest cs' k) else none
theorem fillK_spec {α : Type} {place : Nat → Option (Nat × Nat)} {s : Slots} {g : Gh} {w : World} {a : Act} : ∀ (ps : List (Nat × Operand)) (cs : List AV) (cells : Array Value) (k : List AV → Option α) (r : α), fillK place s ps cs k = some r →
    (∀ p ∈ ps, Rep g w (ev s p.2) (a.eval p.2)) → RepL g w cs cells.toList → (∀ u ∈ cells.toList, u.oneCell' = true) →
    ∃ cs' cells', Instr.fill place cells (ps.map fun p => (p.1, a.eval p.2)) = some cells' ∧ cells'.size = cells.size ∧ RepL g w cs' cells'.toList ∧ (∀ u ∈ cells'.toList, u.oneCell' = true) ∧ k cs' = some r
  | [], cs, cells, k, r, h, _, hl, h1 => ⟨cs, cells, rfl, rfl, hl, h1, h⟩
  | (i, x) :: rest, cs, cells, k, r, h, hp, hl, h1 => by
    unfold fillK at h
    cases hpl : place i with
    | none => rw [hpl] at h; cases h
    | some os =>
      obtain ⟨off, size⟩ := os
      simp only [hpl] at h
      cases hv : ev? s x with
      | none => rw [hv] at h; cases h
      | some v =>
        simp only [hv] at h
        have hrep : Rep g w v (a.eval x) := by have := hp (i, x) (by simp); rwa [ev_of hv] at this
        obtain ⟨vs, h2, h3, h4⟩ := cellsK_spec h hrep
        cases hb : Nat.beq vs.length size with
        | false => rw [hb] at h2; cases h2
        | true =>
          rw [hb] at h2
          obtain ⟨h5, h6⟩ := overK_spec _ _ _ _ _ h2
          have hsz : vs.length = size := Nat.eq_of_beq_eq_true hb
          have hlen : (a.eval x).cells.size = vs.length := by simpa using h3.length
          have hcl : cells.size = cs.length := by simpa using hl.length
          have hfold := fold_over (a.eval x).cells.toList off 0 cells (by simp; omega)
          let cells1 := (a.eval x).cells.zipIdx.foldl (fun cs (x : Value × Nat) => cs.setIfInBounds (off + x.2) x.1) cells
          have hc1 : cells1.toList = cells.toList.take off ++ (a.eval x).cells.toList ++ cells.toList.drop (off + vs.length) := by
            show ((a.eval x).cells.zipIdx.foldl _ cells).toList = _
            rw [← Array.foldl_toList, Array.toList_zipIdx]
            rw [hfold]
            simp [hlen]
          have hcs1 : cells1.size = cells.size := by
            have := congrArg List.length hc1
            simp at this
            omega
          have hrl : RepL g w (cs.take off ++ vs ++ cs.drop (off + vs.length)) cells1.toList := by
            rw [hc1]
            exact ((hl.take off).append h3).append (hl.drop _)
          have hone1 : ∀ u ∈ cells1.toList, u.oneCell' = true := by
            intro u hu
            rw [hc1] at hu
            simp only [List.mem_append] at hu
            rcases hu with (hu | hu) | hu
            · exact h1 u (List.mem_of_mem_take hu)
            · exact h4 u hu
            · exact h1 u (List.mem_of_mem_drop hu)
          obtain ⟨cs', cells', e1, e2, e3, e4, e5⟩ := fillK_spec rest _ cells1 k r h6 (fun p hpm => hp p (by simp [hpm])) hrl hone1
          refine ⟨cs', cells', ?_, e2.trans hcs1, e3, e4, e5⟩
          simp only [List.map_cons, Instr.fill, hpl]
          rw [if_neg (by simp only [hlen, hsz, ne_eq, not_true_eq_false, decide_false, Bool.false_or, decide_eq_true_eq]; omega)]
          exact e1
section rules
variable {P : Program} [Lay P] {all : Array Oper} {draw : Bool} {K : AX → Slots → St → Prop} {rest : List Oper} {acc : List Tag} {s : Slots} {σ : St}
variable {d : Tmp} {ty : TypeId} {pos : String} {af : Array Edge}
omit [Lay P] in
theorem mapM_places : ∀ fs : List Field, (∀ f ∈ fs, (P.info? f.type).isSome = true) → fs.mapM (fun f => (P.info? f.type).map fun i => (f.offset, i.size)) = some (fs.map fun f => (f.offset, P.cellsOf f.type))
  | [], _ => rfl
  | f :: fs, h => by
    have h1 := h f (by simp)
    cases hi : P.info? f.type with
    | none => rw [hi] at h1; cases h1
    | some i =>
      rw [List.mapM_cons, mapM_places fs (fun f hf => h f (by simp [hf]))]
      simp [hi, Program.cellsOf]
def placeOf (fields : List (Nat × Nat × Bool)) (i : Nat) : Option (Nat × Nat) :=
  match fields[i]? with
  | some (o, n, _) => some (o, n)
  | none => none
theorem A.build {T : TypeId} {parts : Array (Nat × Operand)} {ti : TI} {zs : List AV} {v : AV} (hT : ty? P T = some ti) (hk : ti.kind = .struct) (hz : ti.zero = .agg zs) (hv : fillK (placeOf ti.fields) s parts.toList zs (fun cs => some (.agg cs)) = some v)
    (k : AOps P all draw K rest (.pure :: acc) ((d, v) :: s) σ) : AOps P all draw K (⟨some d, .build T parts, ty, pos, af, none⟩ :: rest) acc s σ :=
  A.step rfl (tpure fun g w a ho => by
    obtain ⟨info, dd, z, t1, t2, t3, t4, t5, t6, t7, t8, t9, t10, t11, t12, t13⟩ := (ty_ok hT).ex
    have hd : ∃ fs, dd = .struct fs := by rw [hk] at t3; cases dd <;> first | exact ⟨_, rfl⟩ | cases t3
    obtain ⟨fs, rfl⟩ := hd
    have hzr : Rep g w (.agg zs) z := by rw [← hz, ← t9]; exact rep_ofConst g w z
    obtain ⟨zv, rfl, hzl, hz1⟩ := hzr
    obtain ⟨cs', cells', e1, e2, e3, e4, e5⟩ := fillK_spec (g := g) (w := w) (a := a) parts.toList zs zv _ v hv (fun p hp => ho p.2 (by simp only [Op.operands, List.toList_toArray]; exact List.mem_map.2 ⟨p, hp, rfl⟩)) hzl hz1
    have hv' : v = .agg cs' := (Option.some.inj e5).symm
    subst hv'
    refine ⟨.agg cells', ?_, ⟨cells', rfl, e3, e4⟩⟩
    have hb : P.built T (parts.map fun (i, x) => (i, a.eval x)).toList = some cells' := by
      unfold Program.built
      simp only [t1, t2, t8, mapM_places fs.toList (fun f hf => (t13 fs rfl f hf).1)]
      rw [← e1]
      congr 1
      · funext i
        rw [← t11]
        unfold placeOf fieldsOf
        rw [List.getElem?_map]
        cases hfi : fs.toList[i]? <;> simp [hfi] <;> simp_all
      · simp
    simp only [execOp, Sem.run_bind, run_build w T _ cells' hb, Result.andThen]
    rfl) k
def chunkK {α : Type} (agg : Bool) (n : Nat) : Nat → List AV → (List AV → Option α) → Option α
  | 0, _, k => k []
  | m + 1, cs, k => match cut agg n 0 cs with
    | some x => chunkK agg n m (dropL n cs) fun r => k (x :: r)
    | none => none
theorem chunkK_spec {α : Type} {agg : Bool} {n : Nat} (h1 : agg = false → n = 1) {g : Gh} {w : World} : ∀ (m : Nat) (cs : List AV) (vals : List Value) (k : List AV → Option α) (r : α), chunkK agg n m cs k = some r → RepL g w cs vals → (∀ u ∈ vals, u.oneCell' = true) →
    ∃ xs Vs, k xs = some r ∧ Vs.length = m ∧ RepL g w xs Vs ∧ (∀ V ∈ Vs, V.cells.size = n) ∧ flat Vs = vals.take (m * n)
  | 0, cs, vals, k, r, h, hl, ho => ⟨[], [], h, rfl, rfl, by simp, by simp [flat]⟩
  | m + 1, cs, vals, k, r, h, hl, ho => by
    unfold chunkK at h
    cases hc : cut agg n 0 cs with
    | none => rw [hc] at h; cases h
    | some x =>
      simp only [hc] at h
      rw [dropL_eq] at h
      obtain ⟨xs, Vs, e1, e2, e3, e4, e5⟩ := chunkK_spec h1 m _ (vals.drop n) _ r h (hl.drop n) (fun u hu => ho u (List.mem_of_mem_drop hu))
      rcases cut_spec hc with ⟨ha, _, rfl, hlen⟩ | ⟨ha, hg⟩
      · have hl2 := hl.take n
        have hsz : (vals.take n).length = n := by rw [hl2.length, List.length_take]; simp at hlen; omega
        refine ⟨_, .agg (vals.take n).toArray :: Vs, e1, by simp [e2], ⟨_, _, rfl, ⟨_, rfl, by simpa using hl2, fun u hu => ho u (List.mem_of_mem_take (by simpa using hu))⟩, e3⟩, ?_, ?_⟩
        · intro V hV
          simp only [List.mem_cons] at hV
          rcases hV with rfl | hV
          · simpa [Value.cells] using hsz
          · exact e4 V hV
        · rw [flat_cons, e5, Nat.succ_mul, Nat.add_comm, List.take_add]
          simp [Value.cells]
      · obtain ⟨u, hu, hr⟩ := hl.get hg
        have hn := h1 ha
        subst hn
        cases vals with
        | nil => simp at hu
        | cons v vals =>
          simp at hu
          subst hu
          have h1c := ho v (by simp)
          have hcv : v.cells = #[v] := by cases v <;> first | rfl | cases h1c
          refine ⟨_, v :: Vs, e1, by simp [e2], ⟨_, _, rfl, hr, e3⟩, ?_, ?_⟩
          · intro V hV
            simp only [List.mem_cons] at hV
            rcases hV with rfl | hV
            · rw [hcv]; rfl
            · exact e4 V hV
          · rw [flat_cons, e5, hcv]
            simp
theorem A.buildSlice {T : TypeId} {len : Nat} {parts : Array (Nat × Operand)} {ti te : TI} {v : AV} (hT : ty? P T = some ti) (hk : ti.kind = .slice) (hE : ty? P ti.elem = some te) (hone : (te.agg || Nat.beq te.size 1) = true) (hsmall : Nat.ble (len * te.size) 16777216 = true) (hlen : Nat.ble len 16777216 = true)
    (hv : fillK (fun i => some (i * te.size, te.size)) s parts.toList (List.replicate (len * te.size) .undef) (fun cs => chunkK te.agg te.size len cs fun xs => some (.slice xs .full)) = some v)
    (k : AOps P all draw K rest (.pure :: acc) ((d, v) :: s) σ) : AOps P all draw K (⟨some d, .buildSlice T len parts, ty, pos, af, none⟩ :: rest) acc s σ :=
  A.step (t := .pure) rfl ⟨rfl, fun τ => by
    intro g w a next Q hI ho hn
    obtain ⟨info, dd, z0, t1, t2, t3, t4, _⟩ := (ty_ok hT).ex
    have hd : ∃ e, dd = .slice e := by rw [hk] at t3; cases dd <;> first | exact ⟨_, rfl⟩ | cases t3
    obtain ⟨el, rfl⟩ := hd
    have hel : el = ti.elem := t4
    subst hel
    obtain ⟨z, hz, hz1, hz2, hz3⟩ := run_zero' hE w
    let z' : Array Value := if len * te.size = 0 then #[] else z.cells
    let c0 : Array Value := (Array.range (len * te.size)).map (fun i => z'[i % z'.size]!)
    have hc0 : ∀ u ∈ c0.toList, u.oneCell' = true := by
      intro u hu
      simp only [c0, Array.toList_map, List.mem_map, Array.mem_toList_iff, Array.mem_range] at hu
      obtain ⟨i, hi, rfl⟩ := hu
      have hne : len * te.size ≠ 0 := by omega
      have hzz : z' = z.cells := if_neg hne
      rw [hzz]
      have hpos : 0 < z.cells.size := by
        rw [hz2]
        rcases Nat.eq_zero_or_pos te.size with e | e
        · rw [e] at hne; simp at hne
        · exact e
      have hlt : i % z.cells.size < z.cells.size := Nat.mod_lt _ hpos
      rw [getElem!_pos z.cells _ hlt]
      exact hz3 _ (by simp)
    have hrl0 : RepL g w (List.replicate (len * te.size) .undef) c0.toList := by
      have : ∀ (l : List Value), RepL g w (List.replicate l.length .undef) l := by
        intro l
        induction l with
        | nil => rfl
        | cons v l ih => exact ⟨v, l, rfl, trivial, ih⟩
      have h := this c0.toList
      rwa [show c0.toList.length = len * te.size by simp [c0]] at h
    obtain ⟨cs', cells', e1, e2, e3, e4, e5⟩ := fillK_spec (g := g) (w := w) (a := a) parts.toList _ c0 _ v hv (fun p hp => ho p.2 (by simp only [Op.operands, List.toList_toArray]; exact List.mem_map.2 ⟨p, hp, rfl⟩)) hrl0 hc0
    have hsz1 : te.agg = false → te.size = 1 := by
      intro e
      rw [e] at hone
      exact Nat.eq_of_beq_eq_true (by simpa using hone)
    obtain ⟨xs, Vs, f1, f2, f3, f4, f5⟩ := chunkK_spec hsz1 len cs' cells'.toList _ v e5 e3 e4
    have hv' : v = .slice xs .full := (Option.some.inj f1).symm
    subst hv'
    have hcs : cells'.size = len * te.size := by rw [e2]; simp [c0]
    have hflat : flat Vs = cells'.toList := by rw [f5, List.take_of_length_le]; simp [hcs]
    obtain ⟨n1, n2⟩ := new_data hI cells' ti.elem cells'.size (Nat.le_refl _)
    have hrun : (execOp a.eval ⟨some d, .buildSlice T len parts, ty, pos, af, none⟩).run P w = .ok (.value (.slice (some ⟨w.heap.size, 0, none⟩) len len)) (pushW w (.cells cells' ti.elem)) := by
      have hs : ¬ (len * te.size > 2 ^ 24) := by
        have := Nat.le_of_ble_eq_true hsmall
        omega
      have hfill : ∀ zz : Array Value, zz = z' → Instr.fill (fun i => some (i * te.size, te.size)) ((Array.range (len * te.size)).map (fun x => zz[x % zz.size]!)) (parts.map fun x => (x.1, a.eval x.2)).toList = some cells' := by
        intro zz hzz
        subst hzz
        rw [← e1]
        congr 1
        simp
      simp only [execOp, Instr.buildSlice, Sem.run_bind, run_underlying t2, Result.andThen, run_sizeOf' hE, if_neg hs]
      by_cases hne : len * te.size = 0
      · have h0 := hfill #[] (show #[] = z' from (if_pos hne).symm)
        rw [if_pos hne]
        simp only [Sem.run_bind, Sem.run_pure, Result.andThen, h0]
        rfl
      · have h0 := hfill z.cells (show z.cells = z' from (if_neg hne).symm)
        rw [if_neg hne]
        simp only [Sem.run_bind, Sem.run_pure, Result.andThen, hz, h0]
        rfl
    unfold Oper.wp
    rw [hrun]
    refine hn _ _ _ n1 n2 ⟨some ⟨w.heap.size, 0, none⟩, len, te.size, Vs, by rw [f2], by rw [f2]; exact Nat.le_refl _, ?_, f2, RepL.mono n1.le _ _ f3, (fun h => by cases h), fun p hp => ?_⟩
    · have := Nat.le_of_ble_eq_true hlen
      unfold maxLen
      omega
    · cases hp
      refine ⟨.inl rfl, inMemE_of_flat f4 fun k u hk' => ?_⟩
      rw [hflat] at hk'
      have hlt : k < cells'.size := by have := (List.getElem?_eq_some_iff.1 hk').1; simpa using this
      refine ⟨.inr ⟨rfl, by simpa using hlt⟩, ?_, e4 u (List.mem_of_getElem? hk')⟩
      show (pushW w (.cells cells' ti.elem)).cell? ⟨w.heap.size, 0 + k, none⟩ = some u
      rw [Nat.zero_add, new_data_cell]
      simpa using hk'⟩ k
end rules
end Go.Av
set_option linter.unusedVariables false
namespace Go.Av
open Go
set_option linter.unusedSectionVars false
variable [Globals]
structure Reown (g : Gh) (w : World) (k : Nat) (r' : Rec) (g' : Gh) (w' : World) : Prop where
  bx : g'.bx = g.bx
  tk : (k < g.tk.length ∧ g'.tk = g.tk.set k r') ∨ (k = g.tk.length ∧ g'.tk = g.tk ++ [r'])
section
variable {g : Gh} {σ : St} {w : World}
theorem Reown.get {k : Nat} {r' : Rec} {g' : Gh} {w' : World} (h : Reown g w k r' g' w') : g'.tk[k]? = some r' := by
  rcases h.tk with ⟨h1, h2⟩ | ⟨h1, h2⟩
  · rw [h2]; simp [h1]
  · rw [h2, h1]; simp
theorem Reown.other {k : Nat} {r' : Rec} {g' : Gh} {w' : World} (h : Reown g w k r' g' w') {j : Nat} (hj : j ≠ k) : g'.tk[j]? = g.tk[j]? := by
  rcases h.tk with ⟨h1, h2⟩ | ⟨h1, h2⟩
  · rw [h2]; simp [Ne.symm hj]
  · rw [h2]
    by_cases e : j < g.tk.length
    · rw [List.getElem?_append_left e]
    · have : g.tk.length ≤ j := by omega
      rw [List.getElem?_eq_none (by simp; omega), List.getElem?_eq_none this]
theorem grow_new (hi : Inv g σ w) (cells : Array Value) (T : TypeId) {k n sz cap : Nat} (hsz : cap * sz = cells.size) (hn : n ≤ cap) {old : Option Rec} (hold : g.tk[k]? = old) (hk : k ≤ g.tk.length) (hgr : ∀ r, old = some r → r.n < n ∧ r.sz = sz) {T' : List Tok}
    (hT : (k < σ.T.length ∧ T' = σ.T.set k (.len n)) ∨ (k = σ.T.length ∧ T' = σ.T ++ [.len n])) :
    ∃ g', Reown g w k ⟨some ⟨w.heap.size, 0, none⟩, n, cap, sz, n⟩ g' (pushW w (.cells cells T)) ∧ Ext g w g' (pushW w (.cells cells T)) ∧ Inv g' ⟨σ.B, T'⟩ (pushW w (.cells cells T)) ∧
      (∀ o, o < n * sz → g'.im w.heap.size o) := by
  let r' : Rec := ⟨some ⟨w.heap.size, 0, none⟩, n, cap, sz, n⟩
  let im' : Nat → Nat → Prop := fun b o => g.im b o ∨ (b = w.heap.size ∧ o < n * sz)
  let tk' : List Rec := if k < g.tk.length then g.tk.set k r' else g.tk ++ [r']
  have hre : Reown g w k r' ⟨g.bx, tk', im'⟩ (pushW w (.cells cells T)) := by
    refine ⟨rfl, ?_⟩
    by_cases e : k < g.tk.length
    · exact .inl ⟨e, if_pos e⟩
    · exact .inr ⟨by omega, if_neg e⟩
  have hzone : ∀ b o, r'.zone b o → b = w.heap.size ∧ n * sz ≤ o ∧ o < cells.size := by
    rintro b o ⟨p, hp, rfl, h1, h2⟩
    cases hp
    refine ⟨rfl, by simpa using h1, ?_⟩
    rw [← hsz]
    simpa using h2
  have hle : Le g w ⟨g.bx, tk', im'⟩ (pushW w (.cells cells T)) := by
    refine ⟨fun b o h => ⟨.inl h, (cell_old (push_old w _ (hi.imlt b o h))).1⟩, fun _ _ h => h, fun j r hj => ?_⟩
    by_cases e : j = k
    · subst e
      exact ⟨r', hre.get, .inr ⟨(hgr r (hold ▸ hj)).1, (hgr r (hold ▸ hj)).2.symm⟩⟩
    · exact ⟨r, (hre.other e).trans hj, .inl rfl⟩
  refine ⟨⟨g.bx, tk', im'⟩, hre, ?_, ?_, fun o ho => .inr ⟨rfl, ho⟩⟩
  · refine ⟨hle, by rw [push_size]; omega, rfl, rfl, rfl, fun b hb _ _ => push_old w _ hb, fun b o' hb _ _ => cell_old (push_old w _ hb), fun b o' h => ?_, fun b hb => .inl hb, fun j r hj b o' ho => ?_⟩
    · rcases h with h | ⟨rfl, _⟩
      · exact .inl h
      · exact .inr (.inl (Nat.le_refl _))
    · by_cases e : j = k
      · subst e
        have : r = r' := Option.some.inj (hj.symm.trans hre.get)
        subst this
        exact .inl (by rw [(hzone b o' ho).1]; exact Nat.le_refl _)
      · exact .inr ⟨r, (hre.other e).symm.trans hj, ho⟩
  · refine ⟨hi.lenB, ?_, fun i b ob' h1 h2 => (hi.ob i b ob' h1 h2).mono hle (push_old w _ (hi.bx_lt (List.mem_of_getElem? h1))), hi.nodup, fun b hb o' h => ?_, fun j m r hj hm => ?_, fun j r hj b o' ho => ?_, fun j j' r r2 hne hj hj' b o' ho ho' => ?_, fun b o' h => ?_, hi.gl.le hle⟩
    · show tk'.length = T'.length
      have hlT := hi.lenT
      rcases hT with ⟨h1, rfl⟩ | ⟨h1, rfl⟩
      · rw [show tk' = g.tk.set k r' from if_pos (by omega)]; simp [hlT]
      · rw [show tk' = g.tk ++ [r'] from if_neg (by omega)]; simp [hlT]
    · rcases h with h | ⟨rfl, _⟩
      · exact hi.noim b hb o' h
      · have := hi.bx_lt hb; omega
    · by_cases e : j = k
      · subst e
        have : r = r' := Option.some.inj (hj.symm.trans hre.get)
        subst this
        rcases hT with ⟨h1, rfl⟩ | ⟨h1, rfl⟩
        · simp only [List.getElem?_set_self h1, Option.some.injEq] at hm; subst hm; exact ⟨rfl, rfl⟩
        · rw [h1] at hm; simp at hm; subst hm; exact ⟨rfl, rfl⟩
      · have hj0 : g.tk[j]? = some r := (hre.other e).symm.trans hj
        have hjl := (List.getElem?_eq_some_iff.1 hj0).1
        have hlT := hi.lenT
        refine (hi.tok j m r hj0 ?_).mono hle fun b o ho => (cell_old (push_old w _ (hi.z_lt hj0 ho))).1
        rcases hT with ⟨h1, rfl⟩ | ⟨h1, rfl⟩
        · simpa [Ne.symm e] using hm
        · have hjT : j < σ.T.length := by omega
          simpa [List.getElem?_append_left hjT] using hm
    · by_cases e : j = k
      · subst e
        have : r = r' := Option.some.inj (hj.symm.trans hre.get)
        subst this
        obtain ⟨rfl, h1, h2⟩ := hzone b o' ho
        refine ⟨fun h => ?_, fun hb => ?_, ?_, new_data_frozen w cells T o'⟩
        · rcases h with h | ⟨_, h⟩
          · have := hi.imlt _ _ h; omega
          · omega
        · have := hi.bx_lt hb; omega
        · rw [new_data_cell]; exact ⟨cells[o'], Array.getElem?_eq_getElem h2⟩
      · have hj0 : g.tk[j]? = some r := (hre.other e).symm.trans hj
        obtain ⟨h1, h2, h3, h4⟩ := hi.tkz j r hj0 b o' ho
        have hb := hi.z_lt hj0 ho
        have hc := cell_old (o := o') (push_old w (.cells cells T) hb)
        refine ⟨fun h => ?_, h2, by rw [hc.1]; exact h3, hc.2.trans h4⟩
        rcases h with h | ⟨rfl, _⟩
        · exact h1 h
        · omega
    · by_cases e : j = k
      · subst e
        have : r = r' := Option.some.inj (hj.symm.trans hre.get)
        subst this
        have hj0 : g.tk[j']? = some r2 := (hre.other (Ne.symm hne)).symm.trans hj'
        have hb := hi.z_lt hj0 ho'
        have := (hzone b o' ho).1
        omega
      · have hj0 : g.tk[j]? = some r := (hre.other e).symm.trans hj
        by_cases e' : j' = k
        · subst e'
          have : r2 = r' := Option.some.inj (hj'.symm.trans hre.get)
          subst this
          have hb := hi.z_lt hj0 ho
          have := (hzone b o' ho').1
          omega
        · exact hi.tkd j j' r r2 hne hj0 ((hre.other e').symm.trans hj') b o' ho ho'
    · rw [push_size]
      rcases h with h | ⟨rfl, _⟩
      · have := hi.imlt b o' h; omega
      · omega
theorem grow_here (hi : Inv g σ w) {k : Nat} {r : Rec} (hr : g.tk[k]? = some r) {p : Addr} (hp : r.base = some p) (hps : p.spot = none) {m : Nat} (hm : 0 < m) (hsz : 0 < r.sz) (hlo : r.lo = r.n) (hroom : r.n + m ≤ r.cap) {vs : List Value} (hvs : vs.length = m * r.sz) {w' : World}
    (hst : Stored w w' p.block (p.off + r.n * r.sz) vs) (hkT : k < σ.T.length) :
    ∃ g', Reown g w k ⟨r.base, r.n + m, r.cap, r.sz, r.n + m⟩ g' w' ∧ Ext g w g' w' ∧ Inv g' ⟨σ.B, σ.T.set k (.len (r.n + m))⟩ w' ∧
      (∀ b o, g.im b o → g'.im b o) ∧ (∀ j, j < m * r.sz → g'.im p.block (p.off + r.n * r.sz + j)) := by
  obtain ⟨pb, po, ps⟩ := p
  cases (show ps = none from hps)
  simp only at hst
  let r' : Rec := ⟨r.base, r.n + m, r.cap, r.sz, r.n + m⟩
  let im' : Nat → Nat → Prop := fun b o => g.im b o ∨ (b = pb ∧ po + r.n * r.sz ≤ o ∧ o < po + r.n * r.sz + m * r.sz)
  have hkl := (List.getElem?_eq_some_iff.1 hr).1
  have hre : Reown g w k r' ⟨g.bx, g.tk.set k r', im'⟩ w' := ⟨rfl, .inl ⟨hkl, rfl⟩⟩
  have hmul : (r.n + m) * r.sz = r.n * r.sz + m * r.sz := Nat.add_mul _ _ _
  have hcap : r.n * r.sz + m * r.sz ≤ r.cap * r.sz := by rw [← hmul]; exact Nat.mul_le_mul_right _ hroom
  have hwz : ∀ o, po + r.n * r.sz ≤ o → o < po + r.n * r.sz + m * r.sz → r.zone pb o := fun o h1 h2 => ⟨⟨pb, po, none⟩, hp, rfl, by rw [hlo]; exact h1, by show o < po + r.cap * r.sz; omega⟩
  have hzz : ∀ b o, r'.zone b o → r.zone b o ∧ b = pb ∧ po + r.n * r.sz + m * r.sz ≤ o := by
    rintro b o ⟨q, hq, rfl, h1, h2⟩
    have : q = ⟨pb, po, none⟩ := Option.some.inj (hq.symm.trans hp)
    subst this
    have h1' : po + (r.n + m) * r.sz ≤ o := h1
    rw [hmul] at h1'
    exact ⟨⟨⟨pb, po, none⟩, hp, rfl, by rw [hlo]; show po + r.n * r.sz ≤ o; omega, h2⟩, rfl, by omega⟩
  have hcell : ∀ b o, ¬ (b = pb ∧ po + r.n * r.sz ≤ o ∧ o < po + r.n * r.sz + m * r.sz) → w'.cell? ⟨b, o, none⟩ = w.cell? ⟨b, o, none⟩ := by
    intro b o h
    by_cases e : b = pb
    · subst e
      exact hst.there o (by rw [hvs]; omega)
    · exact (cell_old (hst.block b e)).1
  have hfroz : ∀ b o, w'.frozen? ⟨b, o, none⟩ = w.frozen? ⟨b, o, none⟩ := by
    intro b o
    by_cases e : b = pb
    · subst e; exact hst.frozen o
    · exact (cell_old (hst.block b e)).2
  have himc : ∀ b o, g.im b o → w'.cell? ⟨b, o, none⟩ = w.cell? ⟨b, o, none⟩ := fun b o h => hcell b o fun ⟨e, h1, h2⟩ => by
    subst e
    exact (hi.tkz k r hr b o (hwz o h1 h2)).1 h
  have hle : Le g w ⟨g.bx, g.tk.set k r', im'⟩ w' := by
    refine ⟨fun b o h => ⟨.inl h, himc b o h⟩, fun _ _ h => h, fun j r0 hj => ?_⟩
    by_cases e : j = k
    · subst e
      rw [hr] at hj
      cases hj
      exact ⟨r', hre.get, .inr ⟨by show r.n < r.n + m; omega, rfl⟩⟩
    · exact ⟨r0, (hre.other e).trans hj, .inl rfl⟩
  refine ⟨⟨g.bx, g.tk.set k r', im'⟩, hre, ?_, ?_, fun _ _ h => .inl h, fun j hj => .inr ⟨rfl, by show po + r.n * r.sz ≤ po + r.n * r.sz + j; omega, by show po + r.n * r.sz + j < po + r.n * r.sz + m * r.sz; omega⟩⟩
  · refine ⟨hle, by rw [hst.size]; exact Nat.le_refl _, hst.os, hst.tape, hst.output, fun b hb hn hz => ?_, fun b o hb hn hz => ?_, fun b o h => ?_, fun b hb => .inl hb, fun j r0 hj b o ho => ?_⟩
    · by_cases e : b = pb
      · subst e
        by_cases hz0 : m * r.sz = 0
        · exfalso
          rcases Nat.mul_eq_zero.1 hz0 with h | h
          · omega
          · omega
        · exact absurd (hwz (po + r.n * r.sz) (Nat.le_refl _) (by omega)) (hz k r hr _)
      · exact hst.block b e
    · have hnz := hz k r hr
      refine ⟨hcell b o fun ⟨e, h1, h2⟩ => hnz (by subst e; exact hwz o h1 h2), hfroz b o⟩
    · rcases h with h | ⟨rfl, h1, h2⟩
      · exact .inl h
      · exact .inr (.inr ⟨k, r, hr, hwz o h1 h2⟩)
    · by_cases e : j = k
      · subst e
        have : r0 = r' := Option.some.inj (hj.symm.trans hre.get)
        subst this
        exact .inr ⟨r, hr, (hzz b o ho).1⟩
      · exact .inr ⟨r0, (hre.other e).symm.trans hj, ho⟩
  · have hbm : ∀ b, b ∈ g.bx → w'.heap[b]? = w.heap[b]? := by
      intro b hb
      by_cases e : b = pb
      · subst e
        by_cases hz0 : m * r.sz = 0
        · exfalso
          rcases Nat.mul_eq_zero.1 hz0 with h | h
          · omega
          · omega
        · exact absurd hb (hi.tkz k r hr b _ (hwz (po + r.n * r.sz) (Nat.le_refl _) (by omega))).2.1
      · exact hst.block b e
    refine ⟨hi.lenB, by simpa using hi.lenT, fun i b ob' h1 h2 => (hi.ob i b ob' h1 h2).mono hle (hbm b (List.mem_of_getElem? h1)), hi.nodup, fun b hb o h => ?_, fun j n r0 hj hn => ?_, fun j r0 hj b o ho => ?_, fun j j' r0 r2 hne hj hj' b o ho ho' => ?_, fun b o h => ?_, hi.gl.le hle⟩
    · rcases h with h | ⟨rfl, h1, h2⟩
      · exact hi.noim b hb o h
      · exact (hi.tkz k r hr b o (hwz o h1 h2)).2.1 hb
    · by_cases e : j = k
      · subst e
        have : r0 = r' := Option.some.inj (hj.symm.trans hre.get)
        subst this
        simp only [List.getElem?_set_self hkT, Option.some.injEq] at hn
        subst hn
        exact ⟨rfl, rfl⟩
      · have hj0 : g.tk[j]? = some r0 := (hre.other e).symm.trans hj
        refine (hi.tok j n r0 hj0 (by simpa [Ne.symm e] using hn)).mono hle fun b o ho => hcell b o fun ⟨e', h1, h2⟩ => ?_
        subst e'
        exact hi.tkd j k r0 r e hj0 hr b o ho (hwz o h1 h2)
    · by_cases e : j = k
      · subst e
        have : r0 = r' := Option.some.inj (hj.symm.trans hre.get)
        subst this
        obtain ⟨hz, rfl, h3⟩ := hzz b o ho
        obtain ⟨h4, h5, h6, h7⟩ := hi.tkz j r hr b o hz
        refine ⟨fun h => ?_, h5, ?_, (hfroz b o).trans h7⟩
        · rcases h with h | ⟨_, h1, h2⟩
          · exact h4 h
          · omega
        · rw [hcell b o (fun ⟨_, h1, h2⟩ => by omega)]; exact h6
      · have hj0 : g.tk[j]? = some r0 := (hre.other e).symm.trans hj
        obtain ⟨h4, h5, h6, h7⟩ := hi.tkz j r0 hj0 b o ho
        have hnw : ¬ (b = pb ∧ po + r.n * r.sz ≤ o ∧ o < po + r.n * r.sz + m * r.sz) := fun ⟨e', h1, h2⟩ => by
          subst e'
          exact hi.tkd j k r0 r e hj0 hr b o ho (hwz o h1 h2)
        refine ⟨fun h => ?_, h5, by rw [hcell b o hnw]; exact h6, (hfroz b o).trans h7⟩
        rcases h with h | h
        · exact h4 h
        · exact hnw h
    · by_cases e : j = k
      · subst e
        have : r0 = r' := Option.some.inj (hj.symm.trans hre.get)
        subst this
        exact hi.tkd j j' r r2 hne hr ((hre.other (Ne.symm hne)).symm.trans hj') b o (hzz b o ho).1 ho'
      · have hj0 : g.tk[j]? = some r0 := (hre.other e).symm.trans hj
        by_cases e' : j' = k
        · subst e'
          have : r2 = r' := Option.some.inj (hj'.symm.trans hre.get)
          subst this
          exact hi.tkd j j' r0 r hne hj0 hr b o ho (hzz b o ho').1
        · exact hi.tkd j j' r0 r2 hne hj0 ((hre.other e').symm.trans hj') b o ho ho'
    · rw [hst.size]
      rcases h with h | ⟨rfl, h1, h2⟩
      · exact hi.imlt b o h
      · exact hi.z_lt hr (hwz o h1 h2)
end
def fitsAll (agg : Bool) (n : Nat) : List AV → Bool
  | [] => true
  | y :: ys => fits agg n y && fitsAll agg n ys
theorem fitsAll_spec {agg : Bool} {n : Nat} {g : Gh} {w : World} : ∀ {ys : List AV} {Vs : List Value}, fitsAll agg n ys = true → RepL g w ys Vs → ∀ V ∈ Vs, V.cells.size = n ∧ ∀ u ∈ V.cells.toList, u.oneCell' = true
  | [], _, _, h, V, hV => by rw [show _ = [] from h] at hV; cases hV
  | y :: ys, _, hf, ⟨v, rest, e, h1, h2⟩, V, hV => by
    simp only [fitsAll, Bool.and_eq_true] at hf
    subst e
    rcases List.mem_cons.1 hV with rfl | hV
    · obtain ⟨f1, _, _, f4⟩ := fits_spec hf.1 h1
      exact ⟨f1, f4⟩
    · exact fitsAll_spec hf.2 h2 V hV
theorem fitsAll_map {α : Type} {agg : Bool} {n : Nat} {f : α → AV} (h : ∀ x, fits agg n (f x) = true) : ∀ l : List α, fitsAll agg n (l.map f) = true
  | [] => rfl
  | x :: l => by simp [fitsAll, h x, fitsAll_map h l]
def setTK : Nat → Tok → List Tok → (List Tok → Option (List Tok)) → Option (List Tok)
  | 0, v, _ :: T, k => k (v :: T)
  | n + 1, v, x :: T, k => setTK n v T fun r => k (x :: r)
  | _, _, [], _ => none
theorem setTK_spec : ∀ (n : Nat) (v : Tok) (T : List Tok) (k : List Tok → Option (List Tok)) (r : List Tok), setTK n v T k = some r → n < T.length ∧ k (T.set n v) = some r
  | 0, v, x :: T, k, r, h => ⟨by simp, h⟩
  | n + 1, v, x :: T, k, r, h => by
    have := setTK_spec n v T _ r h
    exact ⟨by simpa using this.1, by simpa using this.2⟩
  | 0, v, [], k, r, h => by cases h
  | n + 1, v, [], k, r, h => by cases h
section rules
variable {P : Program} [Lay P] {all : Array Oper} {draw : Bool} {K : AX → Slots → St → Prop} {rest : List Oper} {acc : List Tag} {s : Slots} {σ : St}
variable {d : Tmp} {ty : TypeId} {pos : String} {af : Array Edge}
structure Src (g : Gh) (w : World) (sz : Nat) (ys : List AV) (u : Value) (Ys : List Value) : Prop where
  rep : RepL g w ys Ys
  size : ∀ V ∈ Ys, V.cells.size = sz
  one : ∀ v ∈ flat Ys, v.oneCell' = true
  form : (∃ (a : Addr) (c : Nat), u = .slice (some a) Ys.length c ∧ ∀ (j : Nat) (v : Value), (flat Ys)[j]? = some v → w.cell? (a.add j) = some v ∧ g.im a.block (a.off + j)) ∨ (u = .slice none 0 0 ∧ Ys = [])
theorem src_of {te : TI} {ys : List AV} {t : Tk} {g : Gh} {w : World} {u : Value} (h : Rep g w (.slice ys t) u) (hf : fitsAll te.agg te.size ys = true) : ∃ Ys, Src g w te.size ys u Ys := by
  obtain ⟨a, cap, sz, Vs, rfl, h1, h2, h3, h4, h5, h6⟩ := h
  have hs := fitsAll_spec hf h4
  refine ⟨Vs, h4, fun V hV => (hs V hV).1, fun v hv => ?_, ?_⟩
  · obtain ⟨V, hV, hv⟩ := List.mem_flatMap.1 hv
    exact (hs V hV).2 v hv
  · cases a with
    | none => obtain ⟨rfl, rfl⟩ := h5 rfl; exact .inr ⟨rfl, rfl⟩
    | some p =>
      obtain ⟨pb, po, ps⟩ := p
      obtain ⟨e, hm⟩ := h6 _ rfl
      refine .inl ⟨_, cap, rfl, fun j v hj => ?_⟩
      cases (show ps = none from e.resolve_right (fun e => by subst e; simp [flat] at hj))
      obtain ⟨m1, m2, _⟩ := hm.flat hj
      rw [addr_add]
      exact ⟨m2, m1⟩
theorem grown_rep {g g' : Gh} {w : World} {sz n cap : Nat} {xs ys : List AV} {Us Ys : List Value} {cells : Array Value} {T : TypeId} (hle : Le g w g' (pushW w (.cells cells T))) (hU : RepL g w xs Us) (hY : RepL g w ys Ys) (hus : ∀ V ∈ Us, V.cells.size = sz) (hys : ∀ V ∈ Ys, V.cells.size = sz)
    (ho : ∀ v ∈ flat Us ++ flat Ys, v.oneCell' = true) (hcells : ∀ (j : Nat) (v : Value), (flat Us ++ flat Ys)[j]? = some v → cells[j]? = some v) (hn : Us.length + Ys.length = n) (hcap : n ≤ cap) (hmax : cap ≤ maxLen)
    {k : Nat} (hk : g'.tk[k]? = some ⟨some ⟨w.heap.size, 0, none⟩, n, cap, sz, n⟩) (him : ∀ o, o < n * sz → g'.im w.heap.size o) :
    Rep g' (pushW w (.cells cells T)) (.slice (xs ++ ys) (.own k sz)) (.slice (some ⟨w.heap.size, 0, none⟩) n cap) := by
  have hall : ∀ V ∈ Us ++ Ys, V.cells.size = sz := fun V hV => (List.mem_append.1 hV).elim (hus V) (hys V)
  have hlen : (Us ++ Ys).length = n := by rw [List.length_append, hn]
  refine ⟨some ⟨w.heap.size, 0, none⟩, cap, sz, Us ++ Ys, by rw [hlen], by rw [hlen]; exact hcap, hmax, ⟨.inl rfl, _, hk, rfl, by rw [hlen]; exact Nat.le_refl _, fun _ => ⟨rfl, rfl, .inr fun p hp => by cases hp; rfl⟩⟩, (RepL.mono hle _ _ hU).append (RepL.mono hle _ _ hY), (fun h => by cases h), fun p hp => ?_⟩
  cases hp
  refine ⟨.inl rfl, inMemE_of_flat hall fun j u hj => ?_⟩
  rw [flat_append] at hj
  have hjl : j < n * sz := by
    have := (List.getElem?_eq_some_iff.1 hj).1
    rw [List.length_append, flat_length hus, flat_length hys, ← Nat.add_mul, hn] at this
    exact this
  show g'.im w.heap.size (0 + j) ∧ (pushW w (.cells cells T)).cell? ⟨w.heap.size, 0 + j, none⟩ = some u ∧ u.oneCell' = true
  rw [Nat.zero_add, new_data_cell]
  exact ⟨him j hjl, hcells j u hj, ho u (List.mem_of_getElem? hj)⟩
theorem append_own_sem {T ty : TypeId} {xs ys : List AV} {k z n : Nat} {ti te : TI} (hT : ty? P T = some ti) (hk : ti.kind = .slice) (hE : ty? P ti.elem = some te) (hzz : te.size = z) (hz0 : 0 < z)
    {g : Gh} {w : World} (hI : Inv g σ w) {ux uy : Value} (h1 : Rep g w (.slice xs (.own k z)) ux) {Ys : List Value} (hsrc : Src g w te.size ys uy Ys) (hTk : σ.T[k]? = some (.len n)) (hn : xs.length = n)
    (hb : (n + ys.length) * te.bytes ≤ 140737488355328) (hb' : n + ys.length ≤ 4611686018427387904) :
    ∃ v w' g', (Builtin.append_ #[T, T] ty #[ux, uy]).run P w = .ok v w' ∧ Ext g w g' w' ∧ Inv g' ⟨σ.B, σ.T.set k (.len (n + ys.length))⟩ w' ∧ Rep g' w' (.slice (xs ++ ys) (.own k z)) v := by
  have hyl : Ys.length = ys.length := hsrc.rep.length
  have kl : k < σ.T.length := (List.getElem?_eq_some_iff.1 hTk).1
  obtain ⟨a0, cap, sz, Us, rfl, c1, c2, ⟨c3, r, hr, hrz, c4, c5⟩, hl, c6, c7⟩ := h1
  have hul : Us.length = n := by rw [← hn]; exact hl.length
  obtain ⟨hrn, hrl⟩ := hI.tkn hr hTk
  obtain ⟨c8, c9, c10⟩ := c5 (by rw [hul, hrn])
  obtain ⟨info, dd, z0, t1, t2, t3, t4, _⟩ := (ty_ok hT).ex
  have hd : ∃ e, dd = .slice e := by rw [hk] at t3; cases dd <;> first | exact ⟨_, rfl⟩ | cases t3
  obtain ⟨el, rfl⟩ := hd
  have hel : el = ti.elem := t4
  subst hel
  obtain ⟨ie, de, ze, u1, u2, u3, u4, u5, u6, u7, u8, u9, u10, u11, u12, u13⟩ := (ty_ok hE).ex
  have hus : ∀ V ∈ Us, V.cells.size = z := by
    intro V hV
    rcases c3 with rfl | c3
    · cases a0 with
      | none => rw [(c6 rfl).1] at hV; cases hV
      | some p =>
        obtain ⟨i, hi⟩ := List.getElem?_of_mem hV
        exact ((c7 p rfl).2 i V hi).1
    · have := List.eq_nil_of_length_eq_zero c3
      subst this
      cases hV
  have hys : ∀ V ∈ Ys, V.cells.size = z := fun V hV => by rw [← hzz]; exact hsrc.size V hV
  by_cases hm : Ys.length = 0
  · -- nothing is appended
    have hYs := List.eq_nil_of_length_eq_zero hm
    subst hYs
    have hys0 : ys = [] := List.eq_nil_of_length_eq_zero (by rw [← hyl]; rfl)
    subst hys0
    refine ⟨.slice a0 Us.length cap, w, g, ?_, Ext.refl g w, ?_, ?_⟩
    · rcases hsrc.form with ⟨b, c, rfl, _⟩ | ⟨rfl, _⟩
      · have hfc : (Builtin.firstCells ie.size 0 (.slice (some b) 0 c)).run P w = .ok #[] w := by simp [Builtin.firstCells, loadCells, loadCellsFrom]
        cases a0 <;> simp [Builtin.append_, run_underlying t2, sizeOf, typeInfo, u1, Builtin.lenOf, c1, hfc, storeCells]
      · cases a0 <;> simp [Builtin.append_, run_underlying t2, sizeOf, typeInfo, u1, Builtin.lenOf, c1, Builtin.firstCells, storeCells]
    · have hTs : σ.T.set k (.len (n + ([] : List AV).length)) = σ.T := by
        apply List.ext_getElem?
        intro i
        by_cases e : i = k
        · subst e; rw [List.getElem?_set_self kl, hTk]; rfl
        · rw [List.getElem?_set_ne (Ne.symm e)]
      rw [hTs]
      exact hI
    · rw [List.append_nil]
      exact ⟨a0, cap, sz, Us, rfl, c1, c2, ⟨c3, r, hr, hrz, c4, c5⟩, hl, c6, c7⟩
  · have hm0 : 0 < Ys.length := by omega
    rcases hsrc.form with ⟨sb, sc, rfl, hscell⟩ | ⟨_, e⟩
    case inr => rw [e] at hm0; simp at hm0
    have hfl : (flat Ys).length = Ys.length * ie.size := by rw [u6, hzz]; exact flat_length hys
    have hful : (flat Us).length = Us.length * ie.size := by rw [u6, hzz]; exact flat_length hus
    have hmax : Us.length + Ys.length ≤ maxLen := by unfold maxLen; omega
    have hfit : ∀ old, old < Us.length + Ys.length → Builtin.nextslicecap (Us.length + Ys.length) old * ie.bytes ≤ 281474976710656 := fun old h => growslice_fits h (by rw [hul, hyl, u7]; exact hb)
    have hzc : ze.cells.size = z := u10.trans hzz
    have grow : ∀ (old : Nat) (hold : ∀ v ∈ flat Us, v.oneCell' = true), old < Us.length + Ys.length → ∃ g',
        Ext g w g' (w.drew.alloc (.cells ((flat Us).toArray ++ (flat Ys).toArray ++ Builtin.zeroCells ze.cells (grownCap w (Us.length + Ys.length) old ti.elem - (Us.length + Ys.length))) ti.elem)) ∧
        Inv g' ⟨σ.B, σ.T.set k (.len (n + ys.length))⟩ (w.drew.alloc (.cells ((flat Us).toArray ++ (flat Ys).toArray ++ Builtin.zeroCells ze.cells (grownCap w (Us.length + Ys.length) old ti.elem - (Us.length + Ys.length))) ti.elem)) ∧
        Rep g' (w.drew.alloc (.cells ((flat Us).toArray ++ (flat Ys).toArray ++ Builtin.zeroCells ze.cells (grownCap w (Us.length + Ys.length) old ti.elem - (Us.length + Ys.length))) ti.elem)) (.slice (xs ++ ys) (.own k z))
          (.slice (some ⟨w.heap.size, 0, none⟩) (Us.length + Ys.length) (grownCap w (Us.length + Ys.length) old ti.elem)) := by
      intro old hold1 hold
      have hge := grownCap_ge w (Us.length + Ys.length) old ti.elem
      have hle2 := grownCap_le_maxLen w (Us.length + Ys.length) old ti.elem hmax
      have hsize : grownCap w (Us.length + Ys.length) old ti.elem * z = ((flat Us).toArray ++ (flat Ys).toArray ++ Builtin.zeroCells ze.cells (grownCap w (Us.length + Ys.length) old ti.elem - (Us.length + Ys.length))).size := by
        simp only [Array.size_append, List.size_toArray, size_zeroCells, hzc, flat_length hus, flat_length hys, ← Nat.add_mul]
        congr 1
        omega
      obtain ⟨g', n1, n2, n3, n4⟩ := grow_new (hI.drew (w.drawn + 1)) ((flat Us).toArray ++ (flat Ys).toArray ++ Builtin.zeroCells ze.cells (grownCap w (Us.length + Ys.length) old ti.elem - (Us.length + Ys.length))) ti.elem (k := k) (n := Us.length + Ys.length) (sz := z)
        hsize hge (old := some r) hr (Nat.le_of_lt (List.getElem?_eq_some_iff.1 hr).1) (fun r' h => by cases h; exact ⟨by omega, hrz⟩) (T' := σ.T.set k (.len (n + ys.length))) (.inl ⟨kl, by rw [hul, hyl]⟩)
      refine ⟨g', (Ext.drew g w _).trans n2, n3, ?_⟩
      refine grown_rep (g := g) (w := w.drew) (n := Us.length + Ys.length) n2.le (RepL.mono (Ext.drew g w (w.drawn + 1)).le _ _ hl) (RepL.mono (Ext.drew g w (w.drawn + 1)).le _ _ hsrc.rep) hus hys (fun v hv => (List.mem_append.1 hv).elim (hold1 v) (hsrc.one v)) (fun j v hj => ?_) rfl hge hle2 n1.get n4
      have hlt := (List.getElem?_eq_some_iff.1 hj).1
      rw [← Array.getElem?_toList, Array.toList_append, Array.toList_append, List.getElem?_append_left (by simpa using hlt)]
      simpa using hj
    cases a0 with
    | none =>
      obtain ⟨rfl, rfl⟩ := c6 rfl
      have hxs : xs = [] := List.eq_nil_of_length_eq_zero (by rw [hn, ← hul]; rfl)
      subst hxs
      obtain ⟨g', n1, n2, n3⟩ := grow 0 (by simp [flat]) (by simpa using hm0)
      have hrun := run_append_nil (P := P) w T ty ti.elem ie ze t2 u1 u8 sb Ys.length sc (flat Ys) hfl (fun j v hj => (hscell j v hj).1) hm0 (by have := hmax; unfold maxLen at this; simp at this; omega) (by have := hfit 0 (by simpa using hm0); rw [show ([] : List Value).length + Ys.length = Ys.length by simp, nextslicecap_zero hm0] at this; exact this)
      refine ⟨_, _, g', hrun, ?_, ?_, ?_⟩
      · simpa [flat] using n1
      · simpa [flat] using n2
      · simpa [flat] using n3
    | some p =>
      obtain ⟨e, hmem⟩ := c7 p rfl
      by_cases hps : p.spot = none
      case neg =>
        have hU := e.resolve_left hps
        subst hU
        have hc0 : cap = 0 := c10.resolve_right fun h => hps (h p rfl)
        subst hc0
        obtain ⟨g', n1, n2, n3⟩ := grow 0 (by simp [flat]) (by simpa using hm0)
        have hrun := run_append_grow (P := P) w T ty ti.elem ie ze t2 u1 u8 p ([] : List Value).length 0 (flat []) hful (fun j v hj => by simp [flat] at hj) sb Ys.length sc (flat Ys) hfl (fun j v hj => (hscell j v hj).1) (by simpa using hm0) (by have := hmax; unfold maxLen at this; omega) (hfit 0 (by simpa using hm0))
        exact ⟨_, _, g', hrun, n1, n2, n3⟩
      obtain ⟨pb, po, ps⟩ := p
      cases (show ps = none from hps)
      have hszz : sz = z ∨ Us = [] := c3.imp id List.eq_nil_of_length_eq_zero
      have hfU : ∀ (j : Nat) (v : Value), (flat Us)[j]? = some v → w.cell? ((⟨pb, po, none⟩ : Addr).add j) = some v ∧ v.oneCell' = true ∧ g.im pb (po + j) := fun j v hj => by
        obtain ⟨m1, m2, m3⟩ := hmem.flat hj
        rw [addr_add]
        exact ⟨m2, m3, m1⟩
      have hone : ∀ v ∈ flat Us, v.oneCell' = true := fun v hv => by
        obtain ⟨j, hj⟩ := List.getElem?_of_mem hv
        exact (hfU j v hj).2.1
      by_cases hroom : Us.length + Ys.length ≤ cap
      · -- there is room
        have hfc : (Builtin.firstCells ie.size Ys.length (.slice (some sb) Ys.length sc)).run P w = .ok (flat Ys).toArray w := run_firstCells_some (P := P) w ie.size Ys.length sb Ys.length sc (flat Ys) hfl (fun j v hj => (hscell j v hj).1)
        have hzr : ∀ j, j < (flat Ys).length → r.zone pb (po + r.n * r.sz + j) := fun j hj => ⟨⟨pb, po, none⟩, c8, rfl, by rw [hrl, ← hrn]; show po + r.n * r.sz ≤ po + r.n * r.sz + j; omega, by
          show po + r.n * r.sz + j < po + r.cap * r.sz
          rw [hfl, u6, hzz] at hj
          have h3 : (Us.length + Ys.length) * z ≤ cap * z := Nat.mul_le_mul_right _ hroom
          rw [Nat.add_mul] at h3
          rw [hrn, hrz, c9, ← hul]
          omega⟩
        obtain ⟨w', hst, hs⟩ := run_stored (P := P) pb (flat Ys) 0 (po + r.n * r.sz) w (fun j hj => (hI.tkz k r hr pb _ (by simpa using hzr j hj)).2.2.1) (fun j hj => (hI.tkz k r hr pb _ (by simpa using hzr j hj)).2.2.2) hsrc.one
        obtain ⟨g', n1, n2, n3, n4, n5⟩ := grow_here hI hr c8 rfl hm0 (by omega) (by rw [hrl, hrn]) (by rw [hrn, c9, ← hul]; exact hroom) (by rw [hfl, u6, hzz, hrz]) hs kl
        refine ⟨.slice (some ⟨pb, po, none⟩) (Us.length + Ys.length) cap, w', g', ?_, n2, by rw [← hyl, ← hrn]; exact n3, ?_⟩
        · have hadd : (⟨pb, po, none⟩ : Addr).add (Us.length * ie.size) = ⟨pb, po + r.n * r.sz, none⟩ := by rw [addr_add, u6, hzz, hrz, hrn, hul]
          simp [Builtin.append_, run_underlying t2, sizeOf, typeInfo, u1, Builtin.lenOf, hroom, hfc, hadd, hst]
        · have hall : ∀ V ∈ Us ++ Ys, V.cells.size = z := fun V hV => (List.mem_append.1 hV).elim (hus V) (hys V)
          have hlen : (Us ++ Ys).length = Us.length + Ys.length := List.length_append
          refine ⟨some ⟨pb, po, none⟩, cap, z, Us ++ Ys, by rw [hlen], by rw [hlen]; exact hroom, c2, ⟨.inl rfl, _, n1.get, hrz, ?_, fun _ => ⟨c8, c9, .inr fun p hp => by cases hp; rfl⟩⟩, (RepL.mono n2.le _ _ hl).append (RepL.mono n2.le _ _ hsrc.rep), (fun h => by cases h), fun q hq => ?_⟩
          · rw [hlen]
            show Us.length + Ys.length ≤ r.n + Ys.length
            omega
          · cases hq
            refine ⟨.inl rfl, inMemE_of_flat hall fun j u hj => ?_⟩
            rw [flat_append] at hj
            show g'.im pb (po + j) ∧ w'.cell? ⟨pb, po + j, none⟩ = some u ∧ u.oneCell' = true
            by_cases hjl : j < (flat Us).length
            · rw [List.getElem?_append_left hjl] at hj
              obtain ⟨m1, m2, m3⟩ := hfU j u hj
              rw [addr_add] at m1
              exact ⟨n4 _ _ m3, (n2.le.im _ _ m3).2.trans m1, m2⟩
            · rw [List.getElem?_append_right (by omega)] at hj
              have hful' : (flat Us).length = r.n * r.sz := by rw [hful, u6, hzz, hrz, hrn, hul]
              have hj' := hs.here (j - (flat Us).length) u hj
              have hjy := (List.getElem?_eq_some_iff.1 hj).1
              have hidx : po + r.n * r.sz + 0 + (j - (flat Us).length) = po + j := by rw [← hful']; omega
              have him := n5 (j - (flat Us).length) (by rw [hrz, ← hzz, ← u6, ← hfl]; exact hjy)
              simp only [Nat.add_zero] at hidx hj'
              rw [hidx] at hj' him
              exact ⟨him, hj', hsrc.one u (List.mem_of_getElem? hj)⟩
      · -- it must grow
        obtain ⟨g', n1, n2, n3⟩ := grow cap hone (by omega)
        have hrun := run_append_grow (P := P) w T ty ti.elem ie ze t2 u1 u8 ⟨pb, po, none⟩ Us.length cap (flat Us) hful (fun j v hj => (hfU j v hj).1) sb Ys.length sc (flat Ys) hfl (fun j v hj => (hscell j v hj).1) (by omega) (by have := hmax; unfold maxLen at this; omega) (hfit cap (by omega))
        exact ⟨_, _, g', hrun, n1, n2, n3⟩
omit [Lay P] in
theorem run_append_op {T : TypeId} {x y : Operand} {a : Act} {w w' : World} {v : Value} (h : (Builtin.append_ #[T, T] ty #[a.eval x, a.eval y]).run P w = .ok v w') :
    (execOp a.eval ⟨some d, .call ⟨.builtin .append, #[x, y], #[T, T]⟩, ty, pos, af, none⟩).run P w = .ok (.value v) w' := by
  have hmap : Array.map a.eval #[x, y] = #[a.eval x, a.eval y] := by simp
  simp only [execOp, resolve, Sem.run_bind, Sem.run_pure, Result.andThen, invoke, builtin, hmap, h]
theorem A.append {T : TypeId} {x y : Operand} {xs ys : List AV} {t : Tk} {k z n : Nat} {ti te : TI} {T' : List Tok} (hT : ty? P T = some ti) (hk : ti.kind = .slice) (hE : ty? P ti.elem = some te) (hz : Nat.beq te.size z = true) (hz0 : Nat.blt 0 z = true)
    (hx : ev? s x = some (.slice xs (.own k z))) (hy : ev? s y = some (.slice ys t)) (hTk : σ.T[k]? = some (.len n)) (hn : xs.length = n) (hf : fitsAll te.agg te.size ys = true)
    (hb : (n + ys.length) * te.bytes ≤ 140737488355328) (hb' : n + ys.length ≤ 4611686018427387904) (hT' : setTK k (.len (n + ys.length)) σ.T some = some T')
    (kk : AOps P all draw K rest (.tk :: acc) ((d, .slice (xs ++ ys) (.own k z)) :: s) ⟨σ.B, T'⟩) : AOps P all draw K (⟨some d, .call ⟨.builtin .append, #[x, y], #[T, T]⟩, ty, pos, af, none⟩ :: rest) acc s σ :=
  A.step (t := .tk) (σ' := ⟨σ.B, T'⟩) rfl ⟨rfl, fun B => by
    intro g w a next Q hI ho hn'
    have h1 := op1 hx (by simp [Op.operands, Call.operands]) ho
    have h2 := op1 hy (by simp [Op.operands, Call.operands]) ho
    obtain ⟨Ys, hsrc⟩ := src_of h2 hf
    obtain ⟨kl, hTe⟩ := setTK_spec _ _ _ _ _ hT'
    obtain ⟨v, w', g', e1, e2, e3, e4⟩ := append_own_sem (σ := ⟨B, σ.T⟩) (ty := ty) hT hk hE (Nat.eq_of_beq_eq_true hz) (Nat.le_of_ble_eq_true hz0) hI h1 hsrc hTk hn hb hb'
    unfold Oper.wp
    rw [run_append_op e1]
    refine hn' v w' g' e2 ?_ e4
    rw [show (⟨σ.B, T'⟩ : St).T = T' from rfl, ← Option.some.inj hTe]
    exact e3⟩ kk
def Tk.fresh : Tk → Bool
  | .full | .nil => true
  | _ => false
omit [Lay P] in
theorem adopt_sem {xs : List AV} {t : Tk} {agg : Bool} {z : Nat} (ht : t.fresh = true) (hf : fitsAll agg z xs = true) {g : Gh} {w : World} (hI : Inv g σ w) {u : Value} (h : Rep g w (.slice xs t) u) :
    ∃ g', Ext g w g' w ∧ Inv g' ⟨σ.B, σ.T ++ [.len xs.length]⟩ w ∧ Rep g' w (.slice xs (.own σ.T.length z)) u := by
  obtain ⟨a0, cap, sz, Us, rfl, c1, c2, c3, hl, c6, c7⟩ := h
  have hcap : cap = Us.length := by
    cases t with
    | full => exact c3.symm
    | nil => obtain ⟨rfl, rfl⟩ := c3; have := (c6 rfl).1; subst this; rfl
    | no => cases ht
    | nn => cases ht
    | own k z => cases ht
  subst hcap
  let r : Rec := ⟨a0, xs.length, Us.length, z, xs.length⟩
  have hul : Us.length = xs.length := hl.length
  have hnz : ∀ b o, ¬ r.zone b o := by
    rintro b o ⟨p, _, _, h1, h2⟩
    have h1' : p.off + xs.length * z ≤ o := h1
    have h2' : o < p.off + Us.length * z := h2
    rw [hul] at h2'
    omega
  have hold : ∀ (j : Nat) (r' : Rec), (g.tk ++ [r])[j]? = some r' → g.tk[j]? = some r' ∨ (j = g.tk.length ∧ r' = r) := by
    intro j r' hj
    by_cases e : j < g.tk.length
    · rw [List.getElem?_append_left e] at hj; exact .inl hj
    · have hlt := (List.getElem?_eq_some_iff.1 hj).1
      simp only [List.length_append, List.length_cons, List.length_nil] at hlt
      have : j = g.tk.length := by omega
      subst this
      simp at hj
      exact .inr ⟨rfl, hj.symm⟩
  have hle : Le g w ⟨g.bx, g.tk ++ [r], g.im⟩ w := ⟨fun _ _ h => ⟨h, rfl⟩, fun _ _ h => h, fun j r' hj => ⟨r', by rw [List.getElem?_append_left (List.getElem?_eq_some_iff.1 hj).1]; exact hj, .inl rfl⟩⟩
  refine ⟨⟨g.bx, g.tk ++ [r], g.im⟩, ⟨hle, Nat.le_refl _, rfl, rfl, rfl, fun _ _ _ _ => rfl, fun _ _ _ _ _ => ⟨rfl, rfl⟩, fun _ _ h => .inl h, fun _ h => .inl h, fun j r' hj b o ho => ?_⟩, ?_, ?_⟩
  · rcases hold j r' hj with h | ⟨_, rfl⟩
    · exact .inr ⟨r', h, ho⟩
    · exact absurd ho (hnz b o)
  · refine ⟨hI.lenB, by simp [hI.lenT], fun i b ob h1 h2 => (hI.ob i b ob h1 h2).mono hle rfl, hI.nodup, hI.noim, fun j n r' hj hn => ?_, fun j r' hj b o ho => ?_, fun j j' r1 r2 hne hj hj' b o ho ho' => ?_, hI.imlt, hI.gl⟩
    · rcases hold j r' hj with h | ⟨rfl, rfl⟩
      · have hjl := (List.getElem?_eq_some_iff.1 h).1
        refine (hI.tok j n r' h ?_).mono hle fun _ _ _ => rfl
        have : j < σ.T.length := by rw [← hI.lenT]; exact hjl
        simpa [List.getElem?_append_left this] using hn
      · rw [hI.lenT] at hn
        simp at hn
        subst hn
        exact ⟨rfl, rfl⟩
    · rcases hold j r' hj with h | ⟨_, rfl⟩
      · exact hI.tkz j r' h b o ho
      · exact absurd ho (hnz b o)
    · rcases hold j r1 hj with h | ⟨_, rfl⟩
      · rcases hold j' r2 hj' with h' | ⟨_, rfl⟩
        · exact hI.tkd j j' r1 r2 hne h h' b o ho ho'
        · exact absurd ho' (hnz b o)
      · exact absurd ho (hnz b o)
  · refine ⟨a0, Us.length, sz, Us, rfl, c1, c2, ⟨?_, r, ?_, rfl, ?_, fun _ => ⟨rfl, rfl, ?_⟩⟩, RepL.mono hle _ _ hl, c6, fun p hp => ⟨(c7 p hp).1, (c7 p hp).2.mono hle⟩⟩
    · rcases Nat.eq_zero_or_pos Us.length with e | e
      · exact .inr e
      · left
        obtain ⟨V, hV⟩ : ∃ V, Us[0]? = some V := ⟨Us[0], List.getElem?_eq_getElem e⟩
        have h1 := (fitsAll_spec hf hl V (List.mem_of_getElem? hV)).1
        cases a0 with
        | none => have := (c6 rfl).1; subst this; simp at e
        | some p => exact (((c7 p rfl).2 0 V hV).1).symm.trans h1
    · rw [← hI.lenT]; simp
    · rw [hul]; exact Nat.le_refl _
    · rcases Nat.eq_zero_or_pos Us.length with e | e
      · exact .inl e
      · exact .inr fun p hp => (c7 p hp).1.resolve_right (fun h => by rw [h] at e; simp at e)
theorem A.append_new {T : TypeId} {x y : Operand} {xs ys : List AV} {t t' : Tk} {k n : Nat} {ti te : TI} {T' : List Tok} (hT : ty? P T = some ti) (hk : ti.kind = .slice) (hE : ty? P ti.elem = some te) (hz0 : Nat.blt 0 te.size = true)
    (hx : ev? s x = some (.slice xs t')) (ht : t'.fresh = true) (hfx : fitsAll te.agg te.size xs = true) (hy : ev? s y = some (.slice ys t)) (hkk : smallLen σ.T = some k) (hn : xs.length = n) (hf : fitsAll te.agg te.size ys = true)
    (hb : (n + ys.length) * te.bytes ≤ 140737488355328) (hb' : n + ys.length ≤ 4611686018427387904) (hT' : snocK σ.T (.len (n + ys.length)) some = some T')
    (kk : AOps P all draw K rest (.tk :: acc) ((d, .slice (xs ++ ys) (.own k te.size)) :: s) ⟨σ.B, T'⟩) : AOps P all draw K (⟨some d, .call ⟨.builtin .append, #[x, y], #[T, T]⟩, ty, pos, af, none⟩ :: rest) acc s σ :=
  A.step (t := .tk) (σ' := ⟨σ.B, T'⟩) rfl ⟨rfl, fun B => by
    intro g w a next Q hI ho hn'
    have h1 := op1 hx (by simp [Op.operands, Call.operands]) ho
    have h2 := op1 hy (by simp [Op.operands, Call.operands]) ho
    obtain ⟨g1, e1, e2, e3⟩ := adopt_sem ht hfx hI h1
    obtain ⟨Ys, hsrc⟩ := src_of (Rep.mono e1.le _ _ h2) hf
    have hkl : σ.T.length = k := smallLen_spec hkk
    have hTe : σ.T ++ [Tok.len (n + ys.length)] = T' := Option.some.inj (snocK_spec _ _ _ _ hT')
    obtain ⟨v, w', g', f1, f2, f3, f4⟩ := append_own_sem (σ := ⟨B, σ.T ++ [.len xs.length]⟩) (ty := ty) (n := n) hT hk hE rfl (Nat.le_of_ble_eq_true hz0) e2 e3 hsrc (by simp [hn]) hn hb hb'
    unfold Oper.wp
    rw [run_append_op f1]
    refine hn' v w' g' (e1.trans f2) ?_ (by rw [← hkl]; exact f4)
    have : (σ.T ++ [Tok.len xs.length]).set σ.T.length (.len (n + ys.length)) = T' := by rw [← hTe]; simp
    rw [← this]
    exact f3⟩ kk
omit [Lay P] in
theorem HCode.adopt {N : Nat} {D : List Deferred} {c : Code} (tm : Nat) (agg : Bool) (z : Nat) {xs : List AV} {t : Tk} {k n : Nat} {T' : List Tok} (hx : lk? s tm = some (.slice xs t)) (ht : t.fresh = true) (hf : fitsAll agg z xs = true) (hk : smallLen σ.T = some k) (hn : xs.length = n)
    (hT' : snocK σ.T (.len n) some = some T') (h : HCode P N D c K ((tm, .slice xs (.own k z)) :: s) ⟨σ.B, T'⟩) : HCode P N D c K s σ := fun g w a hi hs ha hd => by
  have h1 := hs tm
  rw [lk_of hx] at h1
  obtain ⟨g1, e1, e2, e3⟩ := adopt_sem ht hf hi h1
  have hkl : σ.T.length = k := smallLen_spec hk
  have hTe : σ.T ++ [Tok.len n] = T' := Option.some.inj (snocK_spec _ _ _ _ hT')
  rw [hn, hTe] at e2
  rw [hkl] at e3
  refine wp_mono (h g1 w a e2 (fun u => ?_) ha hd) fun _ _ _ hp => hp.trans e1
  unfold lk
  cases e : Nat.beq tm u with
  | true => have := Nat.eq_of_beq_eq_true e; subst this; exact e3
  | false => exact Rep.mono e1.le _ _ (hs u)
end rules
end Go.Av
