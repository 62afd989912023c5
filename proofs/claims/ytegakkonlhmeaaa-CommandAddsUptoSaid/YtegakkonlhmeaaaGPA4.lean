/-
  Contracts and plain facts for a law, joined.
-/
import Derived.Test.YtegakkonlhmeaaaGPA3
import Derived.Test.YtegakkonlhmeaaaGPA1
set_option maxRecDepth 100000
set_option maxHeartbeats 16000000
set_option linter.unusedVariables false
set_option linter.unusedSimpArgs false
set_option linter.unusedSectionVars false
namespace Go.Av
open Go
section rules
variable {P : Program} [Lay P] {all : Array Oper} {draw : Bool} {K : AX → Slots → St → Prop} {rest : List Oper} {acc : List Tag} {s : Slots} {σ : St}
variable {d : Tmp} {ty : TypeId} {pos : String} {af : Array Edge}
theorem A.buildSliceV {T : TypeId} {len k z : Nat} {parts : Array (Nat × Operand)} {ti te : TI} {xs : List AV} {T' : List Tok} (hT : ty? P T = some ti) (hk : ti.kind = .slice) (hE : ty? P ti.elem = some te) (hz : te.size = z) (hone : (te.agg || Nat.beq te.size 1) = true) (hsmall : Nat.ble (len * te.size) 16777216 = true) (hlen : Nat.ble len 16777216 = true)
    (hv : fillK (fun i => some (i * te.size, te.size)) s parts.toList (List.replicate (len * te.size) .undef) (fun cs => chunkK te.agg te.size len cs fun xs => some (AV.slice xs .full)) = some (AV.slice xs .full))
    (hkT : smallLen σ.T = some k) (hT' : snocK σ.T (.vec xs) some = some T')
    (kk : AOps P all draw K rest (.tk :: acc) ((d, .vec k z len 0 len) :: s) ⟨σ.B, T'⟩) : AOps P all draw K (⟨some d, .buildSlice T len parts, ty, pos, af, none⟩ :: rest) acc s σ :=
  A.step (t := .tk) (σ' := ⟨σ.B, T'⟩) rfl ⟨rfl, fun B => by
    intro g w a next Q hI ho hn
    subst hz
    obtain ⟨info, dd, z0, t1, t2, t3, t4, _⟩ := (ty_ok hT).ex
    have hd : ∃ e, dd = .slice e := by rw [hk] at t3; cases dd <;> first | exact ⟨_, rfl⟩ | cases t3
    obtain ⟨el, rfl⟩ := hd
    have hel : el = ti.elem := t4
    subst hel
    obtain ⟨z, hz, hz1, hz2, hz3⟩ := run_zero' hE w
    let z' : Array Value := if len * te.size = 0 then #[] else z.cells
    let c0 : Array Value := (Array.range (len * te.size)).map (fun i => z'[i % z'.size]!)
    have hc0 : ∀ u ∈ c0.toList, u.oneCell' = true := by
      intro u hu
      simp only [c0, Array.toList_map, List.mem_map, Array.mem_toList_iff, Array.mem_range] at hu
      obtain ⟨i, hi, rfl⟩ := hu
      have hne : len * te.size ≠ 0 := by omega
      have hzz : z' = z.cells := if_neg hne
      rw [hzz]
      have hpos : 0 < z.cells.size := by
        rw [hz2]
        rcases Nat.eq_zero_or_pos te.size with e | e
        · rw [e] at hne; simp at hne
        · exact e
      have hlt : i % z.cells.size < z.cells.size := Nat.mod_lt _ hpos
      rw [getElem!_pos z.cells _ hlt]
      exact hz3 _ (by simp)
    have hrl0 : RepL g w (List.replicate (len * te.size) .undef) c0.toList := by
      have : ∀ (l : List Value), RepL g w (List.replicate l.length .undef) l := by
        intro l
        induction l with
        | nil => rfl
        | cons v l ih => exact ⟨v, l, rfl, trivial, ih⟩
      have h := this c0.toList
      rwa [show c0.toList.length = len * te.size by simp [c0]] at h
    obtain ⟨cs', cells', e1, e2, e3, e4, e5⟩ := fillK_spec (g := g) (w := w) (a := a) parts.toList _ c0 _ _ hv (fun p hp => ho p.2 (by simp only [Op.operands, List.toList_toArray]; exact List.mem_map.2 ⟨p, hp, rfl⟩)) hrl0 hc0
    have hsz1 : te.agg = false → te.size = 1 := by
      intro e
      rw [e] at hone
      exact Nat.eq_of_beq_eq_true (by simpa using hone)
    obtain ⟨xs', Vs, f1, f2, f3, f4, f5⟩ := chunkK_spec hsz1 len cs' cells'.toList _ _ e5 e3 e4
    have hv' : xs = xs' := by
      have h0 : AV.slice xs' .full = AV.slice xs .full := Option.some.inj f1
      injection h0 with h1 _
      exact h1.symm
    subst hv'
    have hcs : cells'.size = len * te.size := by rw [e2]; simp [c0]
    have hflat : flat Vs = cells'.toList := by rw [f5, List.take_of_length_le]; simp [hcs]
    have hxl : xs.length = len := f3.length.symm.trans f2
    have hTe : σ.T ++ [.vec xs] = T' := Option.some.inj (snocK_spec _ _ _ _ hT')
    have hkl : σ.T.length = k := smallLen_spec hkT
    have hnone : g.tk[k]? = none := by
      have hlt : g.tk.length = σ.T.length := hI.lenT
      rw [← hkl, ← hlt]; simp
    have hzone : ∀ b o, (⟨some ⟨w.heap.size, 0, none⟩, len, len, te.size, 0⟩ : Rec).zone b o → b = w.heap.size ∧ o < cells'.size := by
      rintro b o ⟨p, hp, rfl, e1, e2⟩
      cases hp
      refine ⟨rfl, ?_⟩
      rw [hcs]
      simpa using e2
    obtain ⟨g', n1, n2, n3, _⟩ := retk (k := k) (r' := ⟨some ⟨w.heap.size, 0, none⟩, len, len, te.size, 0⟩) (t' := .vec xs) (J := fun _ _ => False) hI (w' := pushW w (.cells cells' ti.elem)) (.inr ⟨hkl.symm, rfl⟩)
      (by rw [push_size]; exact Nat.le_succ _) rfl rfl rfl (fun b hb _ => push_old w _ hb) (fun b o hb _ => (cell_old (push_old w _ hb)).1) (fun b o hb => (cell_old (push_old w _ hb)).2) (fun _ _ h => h.elim)
      (fun b o ho => by
        obtain ⟨rfl, h2⟩ := hzone b o ho
        exact ⟨⟨cells'[o], (new_data_cell w cells' ti.elem o).trans (Array.getElem?_eq_getElem h2)⟩, new_data_frozen w cells' ti.elem o, .inl (Nat.le_refl _)⟩)
      (fun r hr => by rw [hnone] at hr; cases hr)
      (fun g' hle => ⟨hxl.symm, rfl, Nat.le_refl _, Vs, RepL.mono hle _ _ f3, (fun e => by cases e), f4, (fun p hp => by
        cases hp
        refine ⟨.inl rfl, inMemE_of_flat f4 fun j u hj => ?_⟩
        rw [hflat] at hj
        refine ⟨trivial, ?_, e4 u (List.mem_of_getElem? hj)⟩
        show (pushW w (.cells cells' ti.elem)).cell? ⟨w.heap.size, 0 + j, none⟩ = some u
        rw [Nat.zero_add]
        exact (new_data_cell w cells' ti.elem j).trans (by simpa using hj))⟩)
    have hrun : (execOp a.eval ⟨some d, .buildSlice T len parts, ty, pos, af, none⟩).run P w = .ok (.value (.slice (some ⟨w.heap.size, 0, none⟩) len len)) (pushW w (.cells cells' ti.elem)) := by
      have hs : ¬ (len * te.size > 2 ^ 24) := by
        have := Nat.le_of_ble_eq_true hsmall
        omega
      have hfill : ∀ zz : Array Value, zz = z' → Instr.fill (fun i => some (i * te.size, te.size)) ((Array.range (len * te.size)).map (fun x => zz[x % zz.size]!)) (parts.map fun x => (x.1, a.eval x.2)).toList = some cells' := by
        intro zz hzz
        subst hzz
        rw [← e1]
        congr 1
        simp
      simp only [execOp, Instr.buildSlice, Sem.run_bind, run_underlying t2, Result.andThen, run_sizeOf' hE, if_neg hs]
      by_cases hne : len * te.size = 0
      · have h0 := hfill #[] (show #[] = z' from (if_pos hne).symm)
        rw [if_pos hne]
        simp only [Sem.run_bind, Sem.run_pure, Result.andThen, h0]
        rfl
      · have h0 := hfill z.cells (show z.cells = z' from (if_neg hne).symm)
        rw [if_neg hne]
        simp only [Sem.run_bind, Sem.run_pure, Result.andThen, hz, h0]
        rfl
    unfold Oper.wp
    rw [hrun]
    refine hn _ _ _ n1 (hTe ▸ n2) ⟨some ⟨w.heap.size, 0, none⟩, len, rfl, Nat.zero_le _, Nat.le_refl _, Nat.le_refl _, ?_, (fun _ => ⟨_, _, rfl⟩), _, n3, rfl, Nat.le_refl _, fun _ => ⟨rfl, rfl, fun _ => ⟨_, rfl, rfl, by simp⟩⟩⟩
    have := Nat.le_of_ble_eq_true hlen
    unfold maxLen
    omega⟩ kk
end rules
theorem AFn.meth {P : Program} {f : FuncId} {args : List AV} {σ : St} {v2 : AV} {nB mT : Nat} {B' : List Ob} {T' : List Tok}
    (h : AFn P f args σ (fun e σ1 => ∃ v σ2, e = .ret v ∧ Turn σ1 v σ2 v2 ∧ σ2.B.take nB = B' ∧ σ2.T.take mT = T')) (hb : σ.B.length ≤ nB) (ht : σ.T.length ≤ mT) (hv : v2.low nB mT = true) (hB : belowB nB mT B' = true) (hT : belowT nB mT T' = true) :
    AFn P f args σ (fun e σ1 => e = .ret v2 ∧ σ1 = ⟨B', T'⟩) :=
  ⟨h.1, fun g w vals hi hl => (h.2 g w vals hi hl).mono fun e w' ⟨g', σ', x, h1, h2, h3, v, σ2, e1, h4, h5, h6⟩ => by
    subst e1
    obtain ⟨u, rfl, hu⟩ := h3
    obtain ⟨g2, k1, k2, k3⟩ := h4 g' w' u h2 hu
    subst h5; subst h6
    exact ⟨g2.cutTo nB mT, _, .ret v2, cutTo_ext (h1.trans k1) (by rw [hi.lenB]; exact hb) (by rw [hi.lenT]; exact ht), cutTo_inv k2 hB hT, ⟨u, rfl, Rep.low v2 u hv k3⟩, rfl, rfl⟩⟩
end Go.Av
namespace Go.Proofs.Ytegakkonlhmeaaa
open Go Go.Av
attribute [local irreducible] HCode AOps PFn AFn DFn Av.Step TStep
def vecS (l : List Mem) : St := ⟨[], [.vec (l.map Mem.enc)]⟩
def cmdV (c : Cmd) : AV := .agg [.str c.name, .str c.table, .str c.col, .str c.typ, .vec 0 6 c.args.length 0 c.args.length]
theorem getV (name : Str) (l : List Mem) (hl : l.length ≤ 9223372036854775807) :
    AFn Try.prog 25 [.str name, .vec 0 6 l.length 0 l.length] (vecS l) (fun e σ1 => e = .ret (.tup [(getG name l).1.enc, .bool (getG name l).2]) ∧ σ1 = vecS l) := by
  have hcl : ∀ v : Val, ∀ b, (AV.tup [v.enc, .bool b]).closed = true := fun v b => by simp [AV.closed, AV.closedL, Val.closed]
  refine AFn.meth (nB := 0) (mT := 1) (AFn.enterR [.cell 4 30, .tmp 5] Try.func25 rfl rfl rfl rfl rfl ?_) (by simp [vecS]) (by simp [vecS]) (AV.low_of_closed _ _ _ (hcl _ _)) rfl (by simp [belowT, Tok.low, Mem.lowL])
  have hml : (l.map Mem.enc).length = l.length := List.length_map ..
  repeat' first | refine .seq ?_ | refine .rg ?_ | refine .rd ?_ | refine .block ?_ | refine .scope ?_ | refine .skip ?_ | refine .label ?_ | refine .exit ?_ | refine .ret ?_ | refine .ct ?_ | refine .cf ?_ | refine .cy ?_ | refine .cn ?_ | (refine .cond rfl ?_ ?_ <;> intro hc) | refine A.nil_seq ?_ | refine .nl ?_ | refine .dd ?_ | refine .ys ?_ | refine .no ?_ | (refine A.guard rfl ?_ ?_ <;> intro hc) | refine .lb ?_ | refine .ln ?_ | refine .ls ?_ | refine .pv ?_ | refine .ix ?_ | refine .pt ?_ | refine .pf ?_ | refine .bx ?_ | refine .al ?_ | refine .st ?_ | refine .ad ?_ | refine .sb ?_ | refine .mf ?_ | refine .cl ?_ | refine .cw ?_ | refine .ck ?_ | refine A.vindex rfl rfl rfl rfl rfl rfl rfl (by assumption) (Nat.zero_add _) ?_ | refine A.vfield rfl rfl rfl rfl rfl rfl ?_ | refine A.vload rfl rfl rfl (by assumption) (by assumption) rfl ?_ | refine A.vlen rfl rfl rfl rfl ?_ | fail
  refine HCode.forK l.length (fun k => [(10, .int .i64 k), (9, .int .i64 l.length), (8, .vec 0 6 l.length 0 l.length), (0, .str name), (4, .ptr 0 0)]) (fun _ => ⟨[.cells zeroV], [.vec (l.map Mem.enc)]⟩) (fun k => getG name l = getG name (l.drop k))
    ⟨rfl, rfl, rfl, rfl, rfl, trivial⟩ rfl rfl fun k hk hp => ?_
  by_cases h1 : k < l.length
  · have d1 : decide ((k : Int) < (l.length : Int)) = true := by simp [h1]
    have x1 := map_get' (f := Mem.enc) h1
    repeat' first | refine .seq ?_ | refine .rg ?_ | refine .rd ?_ | refine .block ?_ | refine .scope ?_ | refine .skip ?_ | refine .label ?_ | refine .exit ?_ | refine .ret ?_ | refine .ct ?_ | refine .cf ?_ | refine .cy ?_ | refine .cn ?_ | (refine .cond rfl ?_ ?_ <;> intro hc) | refine A.nil_seq ?_ | refine .nl ?_ | refine .dd ?_ | refine .ys ?_ | refine .no ?_ | (refine A.guard rfl ?_ ?_ <;> intro hc) | refine .lb ?_ | refine .ln ?_ | refine .ls ?_ | refine .pv ?_ | refine .ix ?_ | refine .pt ?_ | refine .pf ?_ | refine .bx ?_ | refine .al ?_ | refine .st ?_ | refine .ad ?_ | refine .sb ?_ | refine .mf ?_ | refine .cl ?_ | refine .cw ?_ | refine .ck ?_ | refine A.vindex rfl rfl rfl rfl rfl rfl rfl (by assumption) (Nat.zero_add _) ?_ | refine A.vfield rfl rfl rfl rfl rfl rfl ?_ | refine A.vload rfl rfl rfl (by assumption) (by assumption) rfl ?_ | refine A.vlen rfl rfl rfl rfl ?_ | fail
    · refine ⟨_, rfl, _, _, rfl, Turn.weak (Weak.eq ?_), rfl, rfl⟩
      rw [hp, getG_drop h1, if_pos hc]; rfl
    · exact ⟨h1, ⟨rfl, rfl, rfl, rfl, rfl, trivial⟩, by simp [belowS, AV.low, vecS], by simp [belowB, belowT, Ob.low, Tok.low, zeroV, AV.lowL, AV.low, Mem.lowL, vecS], rfl, by rw [hp, getG_drop h1, if_neg (by simp [hc])]⟩
  · have d1 : decide ((k : Int) < (l.length : Int)) = false := by simp; omega
    repeat' first | refine .seq ?_ | refine .rg ?_ | refine .rd ?_ | refine .block ?_ | refine .scope ?_ | refine .skip ?_ | refine .label ?_ | refine .exit ?_ | refine .ret ?_ | refine .ct ?_ | refine .cf ?_ | refine .cy ?_ | refine .cn ?_ | (refine .cond rfl ?_ ?_ <;> intro hc) | refine A.nil_seq ?_ | refine .nl ?_ | refine .dd ?_ | refine .ys ?_ | refine .no ?_ | (refine A.guard rfl ?_ ?_ <;> intro hc) | refine .lb ?_ | refine .ln ?_ | refine .ls ?_ | refine .pv ?_ | refine .ix ?_ | refine .pt ?_ | refine .pf ?_ | refine .bx ?_ | refine .al ?_ | refine .st ?_ | refine .ad ?_ | refine .sb ?_ | refine .mf ?_ | refine .cl ?_ | refine .cw ?_ | refine .ck ?_ | fail
    refine ⟨_, rfl, _, _, rfl, Turn.weak ?_, rfl, rfl⟩
    rw [hp, List.drop_eq_nil_of_le (by omega), getG]
    exact Weak.tup (WeakL.cons weak_flatV (WeakL.refl _))
theorem addV (l : List Tbl) (c : Cmd) (r : Row) (hf : Fine 1048576 l) (hc : r.cols.length + 1 ≤ 1048576) (ha : c.args.length ≤ 1048576) :
    AFn Try.prog 32 [Tbls.enc l, cmdV c, r.enc] (vecS c.args) (fun e σ1 => e = .ret (.tup [Tbls.enc (addG l c r).1, (addG l c r).2.1.enc, .int .i64 (addG l c r).2.2]) ∧ σ1 = vecS c.args) := by
  refine AFn.meth (nB := 0) (mT := 1) (AFn.enterR [.tmp 6, .cell 7 30, .tmp 8] Try.func32 rfl rfl rfl rfl rfl ?_) (by simp [vecS]) (by simp [vecS]) (AV.low_of_closed _ _ _ tup_closed) rfl (by simp [belowT, Tok.low, Mem.lowL])
  have hg := getV sBy c.args (by omega)
  have hren : ∀ fb ft, AV.ren fb ft (.tup [(getG sBy c.args).1.enc, .bool (getG sBy c.args).2]) = .tup [(getG sBy c.args).1.enc, .bool (getG sBy c.args).2] := fun fb ft => AV.ren_closed _ _ _ (by simp [AV.closed, AV.closedL, Val.closed])
  have hcol := col r c.col (by omega)
  have hw1 := within (getG sBy c.args).1.n
  have hw2 := within (colG r c.col).n
  have hw3 := within (wrap64 ((getG sBy c.args).1.n + (colG r c.col).n))
  have hint := int_ (wrap64 ((getG sBy c.args).1.n + (colG r c.col).n))
  have hset := set r.cols c.col (intV (wrap64 ((getG sBy c.args).1.n + (colG r c.col).n))) (by omega)
  have hsl := setG_len r.cols c.col (intV (wrap64 ((getG sBy c.args).1.n + (colG r c.col).n)))
  have hput := put l c.table { r with cols := setG r.cols c.col (intV (wrap64 ((getG sBy c.args).1.n + (colG r c.col).n))) } hf.len hf.rows hf.cols (by dsimp only; omega)
  repeat' first | refine A.callV 0 rfl hg rfl rfl (Mem.closedL _) (Mem.closedL _) rfl (WeakL.refl _) (hren _ _) rfl ?_ | refine .seq ?_ | refine .rg ?_ | refine .rd ?_ | refine .block ?_ | refine .scope ?_ | refine .skip ?_ | refine .label ?_ | refine .exit ?_ | refine .ret ?_ | refine .ct ?_ | refine .cf ?_ | refine .cy ?_ | refine .cn ?_ | (refine .cond rfl ?_ ?_ <;> intro hc) | refine A.nil_seq ?_ | refine .nl ?_ | refine .dd ?_ | refine .ys ?_ | refine .no ?_ | (refine A.guard rfl ?_ ?_ <;> intro hc) | refine .lb ?_ | refine .ln ?_ | refine .ls ?_ | refine .pv ?_ | refine .ix ?_ | refine .pt ?_ | refine .pf ?_ | refine .bx ?_ | refine .al ?_ | refine .st ?_ | refine .ad ?_ | refine .sb ?_ | refine .mf ?_ | refine .cl ?_ | refine .cw ?_ | refine .ck ?_ | refine A.call rfl hcol (WeakL.refl _) ?_ | refine A.call rfl hw1 (WeakL.refl _) ?_ | refine A.call rfl hw2 (WeakL.refl _) ?_ | refine A.add rfl rfl ?_ | refine A.call rfl hw3 (WeakL.refl _) ?_ | refine A.call rfl hint (WeakL.refl _) ?_ | refine A.call rfl hset (WeakL.refl _) ?_ | refine A.call rfl hput (WeakL.refl _) ?_ | fail
  all_goals clear hg hcol hw1 hw2 hw3 hint hset hput hsl
  all_goals refine ⟨_, rfl, _, _, rfl, Turn.weak ?_, rfl, rfl⟩
  all_goals unfold addG
  all_goals dsimp only
  all_goals (repeat' split) <;> first | exact weak_res | exact Weak.refl _ | (exfalso; simp_all; done)
theorem lowV (l : List Tbl) (c : Cmd) (r : Row) : AV.lowL 0 1 [Tbls.enc l, cmdV c, r.enc] = true := by
  simp [AV.lowL, AV.low, cmdV, AV.low_of_closed _ _ _ (Tbls.closed l), AV.low_of_closed _ _ _ (Row.closed r)]
theorem hwkV3 (l : List Tbl) (c : Cmd) (r : Row) (n m : Nat) : WeakL [Tbls.enc l, cmdV c, r.enc] (AV.renL (emb n []) (emb m [0]) [Tbls.enc l, cmdV c, r.enc]) := by
  have e : AV.renL (emb n []) (emb m [0]) [Tbls.enc l, cmdV c, r.enc] = [Tbls.enc l, cmdV c, r.enc] := by
    simp [AV.renL, AV.ren_closed _ _ _ (Tbls.closed l), AV.ren_closed _ _ _ (Row.closed r), cmdV, AV.ren, emb]
  rw [e]; exact WeakL.refl _
theorem doV (l : List Tbl) (c : Cmd) (hb : c.name = sAdd) {B : Nat} (hf : Fine B l) (hB : B + c.args.length + 1 ≤ 1048576) :
    AFn Try.prog 21 [Tbls.enc l, cmdV c] (vecS c.args) (fun e σ1 => e = .ret (.tup [Tbls.enc (cmdG l c).1, (cmdG l c).2.1.enc, .int .i64 (cmdG l c).2.2]) ∧ σ1 = vecS c.args) := by
  refine AFn.meth (nB := 0) (mT := 1) (AFn.enterR [.tmp 4, .cell 5 30, .tmp 6] Try.func21 rfl rfl rfl rfl rfl ?_) (by simp [vecS]) (by simp [vecS]) (AV.low_of_closed _ _ _ tup_closed) rfl (by simp [belowT, Tok.low, Mem.lowL])
  have hf' : Fine 1048576 l := hf.le (by omega)
  have hk := known c.name
  have hg := getV sKey c.args (by omega)
  have hren : ∀ fb ft, AV.ren fb ft (.tup [(getG sKey c.args).1.enc, .bool (getG sKey c.args).2]) = .tup [(getG sKey c.args).1.enc, .bool (getG sKey c.args).2] := fun fb ft => AV.ren_closed _ _ _ (by simp [AV.closed, AV.closedL, Val.closed])
  have hfind := find l ⟨c.table, (getG sKey c.args).1.s⟩ (by have := hf.len; omega) (fun t ht => by have := hf.rows t ht; omega) hf'.cols
  have hfc := findG_cols hf ⟨c.table, (getG sKey c.args).1.s⟩
  have hadd := addV l c (findG l ⟨c.table, (getG sKey c.args).1.s⟩).row hf' (by omega) (by omega)
  have hren2 : ∀ fb ft, AV.ren fb ft (.tup [Tbls.enc (addG l c (findG l ⟨c.table, (getG sKey c.args).1.s⟩).row).1, (addG l c (findG l ⟨c.table, (getG sKey c.args).1.s⟩).row).2.1.enc, .int .i64 (addG l c (findG l ⟨c.table, (getG sKey c.args).1.s⟩).row).2.2]) = .tup [Tbls.enc (addG l c (findG l ⟨c.table, (getG sKey c.args).1.s⟩).row).1, (addG l c (findG l ⟨c.table, (getG sKey c.args).1.s⟩).row).2.1.enc, .int .i64 (addG l c (findG l ⟨c.table, (getG sKey c.args).1.s⟩).row).2.2] := fun fb ft => AV.ren_closed _ _ _ tup_closed
  have e1 : knownG c.name = true := by rw [hb]; rfl
  have e2 : (c.name == [98, 117, 114, 110]) = false := by rw [hb]; rfl
  have e3 : (c.name == [112, 117, 116]) = false := by rw [hb]; rfl
  have e4 : (c.name == [99, 117, 116]) = false := by rw [hb]; rfl
  have e5 : (!knownG c.name) = false := by rw [e1]; rfl
  have hC : cmdG l c = if (getG sKey c.args).1.kind != 4 then (l, val0, 1) else if (findG l ⟨c.table, (getG sKey c.args).1.s⟩).e != 0 then (l, val0, (findG l ⟨c.table, (getG sKey c.args).1.s⟩).e) else if !(findG l ⟨c.table, (getG sKey c.args).1.s⟩).is then (l, val0, 6) else addG l c (findG l ⟨c.table, (getG sKey c.args).1.s⟩).row := by
    unfold cmdG
    rw [e5, show (c.name == sBurn) = false from e2, show (c.name == sPut) = false from e3, show (c.name == sCut) = false from e4]
    rfl
  rw [hC]
  repeat' first | refine A.callV 0 rfl hg rfl rfl (Mem.closedL _) (Mem.closedL _) rfl (WeakL.refl _) (hren _ _) rfl ?_ | refine A.callV 0 rfl hadd rfl rfl (Mem.closedL _) (Mem.closedL _) (lowV _ _ _) (hwkV3 _ _ _ _ _) (hren2 _ _) rfl ?_ | refine .seq ?_ | refine .rg ?_ | refine .rd ?_ | refine .block ?_ | refine .scope ?_ | refine .skip ?_ | refine .label ?_ | refine .exit ?_ | refine .ret ?_ | refine .ct ?_ | refine .cf ?_ | refine .cy ?_ | refine .cn ?_ | (refine .cond rfl ?_ ?_ <;> intro hc) | refine A.nil_seq ?_ | refine .nl ?_ | refine .dd ?_ | refine .ys ?_ | refine .no ?_ | (refine A.guard rfl ?_ ?_ <;> intro hc) | refine .lb ?_ | refine .ln ?_ | refine .ls ?_ | refine .pv ?_ | refine .ix ?_ | refine .pt ?_ | refine .pf ?_ | refine .bx ?_ | refine .al ?_ | refine .st ?_ | refine .ad ?_ | refine .sb ?_ | refine .mf ?_ | refine .cl ?_ | refine .cw ?_ | refine .ck ?_ | refine A.call rfl hk (WeakL.refl _) ?_ | refine A.call rfl hfind (WeakL.refl _) ?_ | fail
  all_goals first | refine ⟨_, rfl, _, _, rfl, Turn.weak ?_, rfl, rfl⟩ | trace_state
  all_goals (repeat' split) <;> first | exact weak_res | exact Weak.refl _ | (exfalso; simp_all; done)
theorem hwkV (l : List Tbl) (c : Cmd) (n m : Nat) : WeakL [Tbls.enc l, cmdV c] (AV.renL (emb n []) (emb m [0]) [Tbls.enc l, cmdV c]) := by
  have e : AV.renL (emb n []) (emb m [0]) [Tbls.enc l, cmdV c] = [Tbls.enc l, cmdV c] := by
    simp [AV.renL, AV.ren_closed _ _ _ (Tbls.closed l), cmdV, AV.ren, emb]
  rw [e]; exact WeakL.refl _
theorem lowV2 (l : List Tbl) (c : Cmd) : AV.lowL 0 1 [Tbls.enc l, cmdV c] = true := by
  simp [AV.lowL, AV.low, cmdV, AV.low_of_closed _ _ _ (Tbls.closed l)]
theorem renTup (l : List Tbl) (v : Val) (e : Int) (fb ft : Nat → Nat) : AV.ren fb ft (.tup [Tbls.enc l, v.enc, .int .i64 e]) = .tup [Tbls.enc l, v.enc, .int .i64 e] := AV.ren_closed _ _ _ tup_closed
theorem cmdDoV (l : List Tbl) (c : Cmd) (hb : c.name = sAdd) {B : Nat} (hf : Fine B l) (hB : B + c.args.length + 1 ≤ 1048576) :
    AFn Try.prog 11 [Tbls.enc l, cmdV c] (vecS c.args) (fun e σ1 => e = .ret (.tup [Tbls.enc (cmdG l c).1, (cmdG l c).2.1.enc, .int .i64 (cmdG l c).2.2]) ∧ σ1 = vecS c.args) := by
  have hf' : Fine 1048576 l := hf.le (by omega)
  have ht := twinT l hf'.len hf'.rows hf'.cols
  have hdo := doV l c hb hf hB
  refine AFn.meth (nB := 0) (mT := 1) (AFn.enterD [.cell 4 22, .cell 5 30, .cell 6 40] Try.func11 rfl rfl rfl rfl rfl rfl ?_) (by simp [vecS]) (by simp [vecS]) (AV.low_of_closed _ _ _ tup_closed) rfl (by simp [belowT, Tok.low, Mem.lowL])
  repeat' first | refine A.box_r rfl rfl ?_ | refine .seq ?_ | refine .rg ?_ | refine .rd ?_ | refine .block ?_ | refine .scope ?_ | refine .skip ?_ | refine .label ?_ | refine .exit ?_ | refine .ret ?_ | refine .ct ?_ | refine .cf ?_ | refine .cy ?_ | refine .cn ?_ | (refine .cond rfl ?_ ?_ <;> intro hc) | refine A.nil_seq ?_ | refine .nl ?_ | refine .dd ?_ | refine .ys ?_ | refine .no ?_ | (refine A.guard rfl ?_ ?_ <;> intro hc) | refine .lb ?_ | refine .ln ?_ | refine .ls ?_ | refine .pv ?_ | refine .ix ?_ | refine .pt ?_ | refine .pf ?_ | refine .bx ?_ | refine .al ?_ | refine .st ?_ | refine .ad ?_ | refine .sb ?_ | refine .mf ?_ | refine .cl ?_ | refine .cw ?_ | refine .ck ?_ | fail | fail
  refine ⟨rfl, _, rfl, (recNone l ⟨[], []⟩).callable, fun D => ?_⟩
  by_cases he : (cmdG l c).2.2 = 0
  · have d1 : ((cmdG l c).2.2 != 0) = false := by rw [he]; rfl
    repeat' first | refine .seq ?_ | refine .rg ?_ | refine .rd ?_ | refine .block ?_ | refine .scope ?_ | refine .skip ?_ | refine .label ?_ | refine .exit ?_ | refine .ret ?_ | refine .ct ?_ | refine .cf ?_ | refine .cy ?_ | refine .cn ?_ | (refine .cond rfl ?_ ?_ <;> intro hc) | refine A.nil_seq ?_ | refine .nl ?_ | refine .dd ?_ | refine .ys ?_ | refine .no ?_ | (refine A.guard rfl ?_ ?_ <;> intro hc) | refine .lb ?_ | refine .ln ?_ | refine .ls ?_ | refine .pv ?_ | refine .ix ?_ | refine .pt ?_ | refine .pf ?_ | refine .bx ?_ | refine .al ?_ | refine .st ?_ | refine .ad ?_ | refine .sb ?_ | refine .mf ?_ | refine .cl ?_ | refine .cw ?_ | refine .ck ?_ | refine A.callV 0 rfl hdo rfl rfl (Mem.closedL _) (Mem.closedL _) (lowV2 _ _) (hwkV _ _ _ _) (renTup _ _ _ _ _) rfl ?_ | fail
    exact ⟨_, recNone l _, _, rfl, _, _, rfl, Turn.weak (Weak.refl _), rfl, rfl⟩
  · have d1 : ((cmdG l c).2.2 != 0) = true := by simpa using he
    have e1 := cmdG_err l c he
    repeat' first | refine .seq ?_ | refine .rg ?_ | refine .rd ?_ | refine .block ?_ | refine .scope ?_ | refine .skip ?_ | refine .label ?_ | refine .exit ?_ | refine .ret ?_ | refine .ct ?_ | refine .cf ?_ | refine .cy ?_ | refine .cn ?_ | (refine .cond rfl ?_ ?_ <;> intro hc) | refine A.nil_seq ?_ | refine .nl ?_ | refine .dd ?_ | refine .ys ?_ | refine .no ?_ | (refine A.guard rfl ?_ ?_ <;> intro hc) | refine .lb ?_ | refine .ln ?_ | refine .ls ?_ | refine .pv ?_ | refine .ix ?_ | refine .pt ?_ | refine .pf ?_ | refine .bx ?_ | refine .al ?_ | refine .st ?_ | refine .ad ?_ | refine .sb ?_ | refine .mf ?_ | refine .cl ?_ | refine .cw ?_ | refine .ck ?_ | refine A.callV 0 rfl hdo rfl rfl (Mem.closedL _) (Mem.closedL _) (lowV2 _ _) (hwkV _ _ _ _) (renTup _ _ _ _ _) rfl ?_ | refine A.call rfl ht (WeakL.refl _) ?_ | fail
    refine ⟨_, recNone l _, _, rfl, _, _, rfl, Turn.weak ?_, rfl, rfl⟩
    rw [e1]
    exact Weak.refl _
end Go.Proofs.Ytegakkonlhmeaaa
namespace Go.Proofs.Ytegakkonlhmeaaa
open Go Go.Av
attribute [local irreducible] HCode AOps PFn AFn Av.Step TStep
mutual
theorem sameV_refl : ∀ v : Val, sameV v v = true
  | .mk k n s l m => by rw [sameV, sameL_refl l, sameM_refl m]; simp
theorem sameL_refl : ∀ l : List Val, sameL l l = true
  | [] => by rw [sameL]
  | v :: l => by rw [sameL, sameV_refl v, sameL_refl l]; rfl
theorem sameM_refl : ∀ l : List Mem, sameM l l = true
  | [] => by rw [sameM]
  | .mk n v :: l => by rw [sameM, sameV_refl v, sameM_refl l]; simp
end
def w64 (n : Int) : Int := IntKind.i64.wrap n
mutual
def szV : Val → Int
  | .mk _ _ s l m => szM m (szL l (w64 (1 + s.length)))
def szL : List Val → Int → Int
  | [], n => n
  | v :: l, n => szL l (w64 (n + szV v))
def szM : List Mem → Int → Int
  | [], n => n
  | .mk name v :: l, n => szM l (w64 (w64 (n + name.length) + szV v))
end
theorem szL_drop {l : List Val} {k : Nat} (h : k < l.length) (n : Int) : szL (l.drop k) n = szL (l.drop (k + 1)) (w64 (n + szV l[k])) := by
  rw [List.drop_eq_getElem_cons h, szL]
theorem szM_drop {l : List Mem} {k : Nat} (h : k < l.length) (n : Int) : szM (l.drop k) n = szM (l.drop (k + 1)) (w64 (w64 (n + l[k].name.length) + szV l[k].v)) := by
  rw [List.drop_eq_getElem_cons h]
  cases l[k]
  rw [szM]; rfl
theorem szV_eq (v : Val) : szV v = szM v.m (szL v.l (w64 (1 + v.s.length))) := by cases v; rw [szV]; rfl
theorem size_aux : ∀ (N : Nat) (v : Val), v.size ≤ N → N ≤ 9223372036854775807 → PFn Try.prog 26 [v.enc] (.int .i64 (szV v))
  | 0, v, h, _ => by have := v.size_pos; omega
  | N + 1, v, h, hN => by
    have ih := fun (x : Val) (hx : x.size ≤ N) => size_aux N x hx (by omega)
    refine AFn.plain rfl (by simp [AV.closedL, Val.closed]) (AFn.enter [2] Try.func26 rfl rfl rfl rfl rfl (by decide) ?_)
    have la := v.l_len
    have ma := v.m_len
    repeat' first | refine A.box_r rfl rfl ?_ | refine .seq ?_ | refine .rg ?_ | refine .rd ?_ | refine .block ?_ | refine .scope ?_ | refine .skip ?_ | refine .label ?_ | refine .exit ?_ | refine .ret ?_ | refine .ct ?_ | refine .cf ?_ | refine .cy ?_ | refine .cn ?_ | (refine .cond rfl ?_ ?_ <;> intro hc) | refine A.nil_seq ?_ | refine .nl ?_ | refine .dd ?_ | refine .ys ?_ | refine .no ?_ | (refine A.guard rfl ?_ ?_ <;> intro hc) | refine .lb ?_ | refine .ln ?_ | refine .ls ?_ | refine .pv ?_ | refine .ix ?_ | refine .pt ?_ | refine .pf ?_ | refine .bx ?_ | refine .al ?_ | refine .st ?_ | refine .ad ?_ | refine .sb ?_ | refine .mf ?_ | refine .cl ?_ | refine .cw ?_ | refine .ck ?_ | refine A.add rfl rfl ?_ | fail
    change HCode _ _ _ _ _ _ _
    refine HCode.loop (fun n s σ => ∃ (k : Nat) (c : Int), n = v.l.length - k ∧ k ≤ v.l.length ∧ szL v.l (w64 (1 + v.s.length)) = szL (v.l.drop k) c ∧ σ = ⟨[], []⟩ ∧ s = [(4, .int .i64 k), (3, .int .i64 c), (1, .rptr v.enc)])
      (s0 := [(4, .int .i64 (0 : Nat)), (3, .int .i64 (w64 (1 + v.s.length))), (1, .rptr v.enc)]) ⟨rfl, rfl, rfl, trivial⟩ ⟨0, _, rfl, Nat.zero_le _, rfl, rfl, rfl⟩ ?_
    rintro n s σ ⟨k, c, rfl, hk, hp, rfl, rfl⟩
    have hll := v.lv_len
    by_cases h1 : k < v.l.length
    · have d1 : decide ((k : Int) < (v.lv.length : Int)) = true := by simp [h1, hll]
      have x1 := Val.lv_get h1
      have hcc := ih v.l[k] (by have := Val.size_l h1; omega)
      repeat' first | refine .seq ?_ | refine .rg ?_ | refine .rd ?_ | refine .block ?_ | refine .scope ?_ | refine .skip ?_ | refine .label ?_ | refine .exit ?_ | refine .ret ?_ | refine .ct ?_ | refine .cf ?_ | refine .cy ?_ | refine .cn ?_ | (refine .cond rfl ?_ ?_ <;> intro hc) | refine A.nil_seq ?_ | refine .nl ?_ | refine .dd ?_ | refine .ys ?_ | refine .no ?_ | (refine A.guard rfl ?_ ?_ <;> intro hc) | refine .lb ?_ | refine .ln ?_ | refine .ls ?_ | refine .pv ?_ | refine .ix ?_ | refine .pt ?_ | refine .pf ?_ | refine .bx ?_ | refine .al ?_ | refine .st ?_ | refine .ad ?_ | refine .sb ?_ | refine .mf ?_ | refine .cl ?_ | refine .cw ?_ | refine .ck ?_ | refine A.len rfl rfl rfl rfl ?_ | refine A.call rfl hcc (WeakL.refl _) ?_ | refine A.add rfl rfl ?_ | fail
      exact ⟨v.l.length - (k + 1), by omega, [(4, .int .i64 ((k + 1 : Nat) : Int)), (3, .int .i64 (w64 (c + szV v.l[k]))), (1, .rptr v.enc)],
        ⟨rfl, rfl, rfl, trivial⟩, by simp [belowS, AV.low, Val.low], rfl, k + 1, _, rfl, by omega, by rw [hp, szL_drop h1], rfl, rfl⟩
    · have d1 : decide ((k : Int) < (v.lv.length : Int)) = false := by simp [hll]; omega
      rw [List.drop_eq_nil_of_le (by omega), szL] at hp
      repeat' first | refine .seq ?_ | refine .rg ?_ | refine .rd ?_ | refine .block ?_ | refine .scope ?_ | refine .skip ?_ | refine .label ?_ | refine .exit ?_ | refine .ret ?_ | refine .ct ?_ | refine .cf ?_ | refine .cy ?_ | refine .cn ?_ | (refine .cond rfl ?_ ?_ <;> intro hc) | refine A.nil_seq ?_ | refine .nl ?_ | refine .dd ?_ | refine .ys ?_ | refine .no ?_ | (refine A.guard rfl ?_ ?_ <;> intro hc) | refine .lb ?_ | refine .ln ?_ | refine .ls ?_ | refine .pv ?_ | refine .ix ?_ | refine .pt ?_ | refine .pf ?_ | refine .bx ?_ | refine .al ?_ | refine .st ?_ | refine .ad ?_ | refine .sb ?_ | refine .mf ?_ | refine .cl ?_ | refine .cw ?_ | refine .ck ?_ | refine A.len rfl rfl rfl rfl ?_ | fail
      change HCode _ _ _ _ _ _ _
      refine HCode.loop (fun n s σ => ∃ (k : Nat) (c' : Int), n = v.m.length - k ∧ k ≤ v.m.length ∧ szM v.m c = szM (v.m.drop k) c' ∧ σ = ⟨[], []⟩ ∧ s = [(5, .int .i64 k), (3, .int .i64 c'), (1, .rptr v.enc)])
        (s0 := [(5, .int .i64 (0 : Nat)), (3, .int .i64 c), (1, .rptr v.enc)]) ⟨rfl, rfl, rfl, trivial⟩ ⟨0, _, rfl, Nat.zero_le _, rfl, rfl, rfl⟩ ?_
      rintro n s σ ⟨k2, c2, rfl, hk2, hp2, rfl, rfl⟩
      have hml := v.mv_len
      by_cases h2 : k2 < v.m.length
      · have d2 : decide ((k2 : Int) < (v.mv.length : Int)) = true := by simp [h2, hml]
        have x2 := Val.mv_get h2
        have hcc := ih v.m[k2].v (by have := Val.size_m h2; omega)
        repeat' first | refine .seq ?_ | refine .rg ?_ | refine .rd ?_ | refine .block ?_ | refine .scope ?_ | refine .skip ?_ | refine .label ?_ | refine .exit ?_ | refine .ret ?_ | refine .ct ?_ | refine .cf ?_ | refine .cy ?_ | refine .cn ?_ | (refine .cond rfl ?_ ?_ <;> intro hc) | refine A.nil_seq ?_ | refine .nl ?_ | refine .dd ?_ | refine .ys ?_ | refine .no ?_ | (refine A.guard rfl ?_ ?_ <;> intro hc) | refine .lb ?_ | refine .ln ?_ | refine .ls ?_ | refine .pv ?_ | refine .ix ?_ | refine .pt ?_ | refine .pf ?_ | refine .bx ?_ | refine .al ?_ | refine .st ?_ | refine .ad ?_ | refine .sb ?_ | refine .mf ?_ | refine .cl ?_ | refine .cw ?_ | refine .ck ?_ | refine A.len rfl rfl rfl rfl ?_ | refine A.call rfl hcc (WeakL.refl _) ?_ | refine A.add rfl rfl ?_ | fail
        exact ⟨v.m.length - (k2 + 1), by omega, [(5, .int .i64 ((k2 + 1 : Nat) : Int)), (3, .int .i64 (w64 (w64 (c2 + v.m[k2].name.length) + szV v.m[k2].v))), (1, .rptr v.enc)],
          ⟨rfl, rfl, rfl, trivial⟩, by simp [belowS, AV.low, Val.low], rfl, k2 + 1, _, rfl, by omega, by rw [hp2, szM_drop h2], rfl, rfl⟩
      · have d2 : decide ((k2 : Int) < (v.mv.length : Int)) = false := by simp [hml]; omega
        rw [List.drop_eq_nil_of_le (by omega), szM] at hp2
        repeat' first | refine .seq ?_ | refine .rg ?_ | refine .rd ?_ | refine .block ?_ | refine .scope ?_ | refine .skip ?_ | refine .label ?_ | refine .exit ?_ | refine .ret ?_ | refine .ct ?_ | refine .cf ?_ | refine .cy ?_ | refine .cn ?_ | (refine .cond rfl ?_ ?_ <;> intro hc) | refine A.nil_seq ?_ | refine .nl ?_ | refine .dd ?_ | refine .ys ?_ | refine .no ?_ | (refine A.guard rfl ?_ ?_ <;> intro hc) | refine .lb ?_ | refine .ln ?_ | refine .ls ?_ | refine .pv ?_ | refine .ix ?_ | refine .pt ?_ | refine .pf ?_ | refine .bx ?_ | refine .al ?_ | refine .st ?_ | refine .ad ?_ | refine .sb ?_ | refine .mf ?_ | refine .cl ?_ | refine .cw ?_ | refine .ck ?_ | refine A.len rfl rfl rfl rfl ?_ | fail
        refine Fin.ret1 rfl (Weak.eq ?_)
        rw [szV_eq, hp, hp2]
theorem sizeF (v : Val) (h : v.size ≤ 9223372036854775807) : PFn Try.prog 26 [v.enc] (.int .i64 (szV v)) := size_aux v.size v (Nat.le_refl _) h
def memsV (l : List Mem) : Val := .mk 0 0 [] [] l
theorem weak_mems {l : List Mem} {t1 t2 : Tk} : Weak (.agg [.int .i64 0, .int .i64 0, .str [], .slice [] t1, .slice (l.map Mem.enc) t2]) (memsV l).enc := by
  have h1 : (memsV l).lv = [] := by rw [memsV, Val.lv, Val.goL]
  have h2 : (memsV l).mv = l.map Mem.enc := by rw [memsV, Val.mv, Val.goM_eq]
  unfold Val.enc
  rw [h1, h2]
  exact Weak.agg (WeakL.cons (Weak.refl _) (WeakL.cons (Weak.refl _) (WeakL.cons (Weak.refl _) (WeakL.cons (Weak.no (WeakL.refl _)) (WeakL.cons (Weak.no (WeakL.refl _)) (WeakL.refl _))))))
theorem memsV_size (l : List Mem) : (memsV l).size = sumSize Mem.size l + 6 := by rw [memsV, Val.size, Val.sizeL_eq, Val.sizeM_eq, sumSize]; simp
def lightRowI (r : Row) : Int := w64 (w64 (w64 (1 + r.key.length) + r.typ.length) + szV (memsV r.cols))
theorem lightRow (r : Row) (h : sumSize Mem.size r.cols ≤ 1048576) : PFn Try.prog 15 [r.enc] (.int .i64 (lightRowI r)) := by
  refine AFn.plain rfl (by simp [AV.closedL, Row.closed]) (AFn.enter [2] Try.func15 rfl rfl rfl rfl rfl (by decide) ?_)
  have hs := sizeF (memsV r.cols) (by rw [memsV_size]; omega)
  repeat' first | refine A.box_r rfl rfl ?_ | refine .seq ?_ | refine .rg ?_ | refine .rd ?_ | refine .block ?_ | refine .scope ?_ | refine .skip ?_ | refine .label ?_ | refine .exit ?_ | refine .ret ?_ | refine .ct ?_ | refine .cf ?_ | refine .cy ?_ | refine .cn ?_ | (refine .cond rfl ?_ ?_ <;> intro hc) | refine A.nil_seq ?_ | refine .nl ?_ | refine .dd ?_ | refine .ys ?_ | refine .no ?_ | (refine A.guard rfl ?_ ?_ <;> intro hc) | refine .lb ?_ | refine .ln ?_ | refine .ls ?_ | refine .pv ?_ | refine .ix ?_ | refine .pt ?_ | refine .pf ?_ | refine .bx ?_ | refine .al ?_ | refine .st ?_ | refine .ad ?_ | refine .sb ?_ | refine .mf ?_ | refine .cl ?_ | refine .cw ?_ | refine .ck ?_ | refine A.add rfl rfl ?_ | refine A.call rfl hs (WeakL.cons weak_mems (WeakL.refl _)) ?_ | fail
  exact Fin.ret1 rfl (Weak.refl _)
def lightRows : List Row → Int → Int
  | [], n => n
  | r :: l, n => lightRows l (w64 (n + lightRowI r))
theorem lightRows_drop {l : List Row} {k : Nat} (h : k < l.length) (n : Int) : lightRows (l.drop k) n = lightRows (l.drop (k + 1)) (w64 (n + lightRowI l[k])) := by
  rw [List.drop_eq_getElem_cons h, lightRows]
def lightTs : List Tbl → Int → Int
  | [], n => n
  | t :: l, n => lightTs l (lightRows t.rows (w64 (w64 (n + 1) + t.name.length)))
theorem lightTs_drop {l : List Tbl} {k : Nat} (h : k < l.length) (n : Int) : lightTs (l.drop k) n = lightTs (l.drop (k + 1)) (lightRows l[k].rows (w64 (w64 (n + 1) + l[k].name.length))) := by
  rw [List.drop_eq_getElem_cons h, lightTs]
def lightT (l : List Tbl) : Bool := decide (lightTs l 0 ≤ 4000)
theorem light (l : List Tbl) (hl : l.length ≤ 1048576) (hr : ∀ t ∈ l, t.rows.length ≤ 1048576) (hs : ∀ t ∈ l, ∀ r ∈ t.rows, sumSize Mem.size r.cols ≤ 1048576) : PFn Try.prog 4 [Tbls.enc l] (.bool (lightT l)) := by
  refine AFn.plain rfl (by simp [AV.closedL, Tbls.closed]) (AFn.enter [2] Try.func4 rfl rfl rfl rfl rfl (by decide) ?_)
  repeat' first | refine .seq ?_ | refine .rg ?_ | refine .rd ?_ | refine .block ?_ | refine .scope ?_ | refine .skip ?_ | refine .label ?_ | refine .exit ?_ | refine .ret ?_ | refine .ct ?_ | refine .cf ?_ | refine .cy ?_ | refine .cn ?_ | (refine .cond rfl ?_ ?_ <;> intro hc) | refine A.nil_seq ?_ | refine .nl ?_ | refine .dd ?_ | refine .ys ?_ | refine .no ?_ | (refine A.guard rfl ?_ ?_ <;> intro hc) | refine .lb ?_ | refine .ln ?_ | refine .ls ?_ | refine .pv ?_ | refine .ix ?_ | refine .pt ?_ | refine .pf ?_ | refine .bx ?_ | refine .al ?_ | refine .st ?_ | refine .ad ?_ | refine .sb ?_ | refine .mf ?_ | refine .cl ?_ | refine .cw ?_ | refine .ck ?_ | fail
  change HCode _ _ _ _ _ _ _
  refine HCode.loop (fun n s σ => ∃ (k : Nat) (c : Int), n = l.length - k ∧ k ≤ l.length ∧ lightTs l 0 = lightTs (l.drop k) c ∧ σ = ⟨[], []⟩ ∧ s = [(4, .int .i64 k), (3, .int .i64 c), (0, Tbls.enc l)])
    (s0 := [(4, .int .i64 (0 : Nat)), (3, .int .i64 0), (0, Tbls.enc l)]) ⟨rfl, rfl, rfl, trivial⟩ ⟨0, _, rfl, Nat.zero_le _, rfl, rfl, rfl⟩ ?_
  rintro n s σ ⟨k, c, rfl, hk, hp, rfl, rfl⟩
  by_cases h1 : k < l.length
  · have d1 : decide ((k : Int) < (l.length : Int)) = true := by simp [h1]
    have x1 := map_get' (f := Tbl.enc) h1
    have hrl := hr _ (List.getElem_mem h1)
    rw [lightTs_drop h1] at hp
    repeat' first | refine .seq ?_ | refine .rg ?_ | refine .rd ?_ | refine .block ?_ | refine .scope ?_ | refine .skip ?_ | refine .label ?_ | refine .exit ?_ | refine .ret ?_ | refine .ct ?_ | refine .cf ?_ | refine .cy ?_ | refine .cn ?_ | (refine .cond rfl ?_ ?_ <;> intro hc) | refine A.nil_seq ?_ | refine .nl ?_ | refine .dd ?_ | refine .ys ?_ | refine .no ?_ | (refine A.guard rfl ?_ ?_ <;> intro hc) | refine .lb ?_ | refine .ln ?_ | refine .ls ?_ | refine .pv ?_ | refine .ix ?_ | refine .pt ?_ | refine .pf ?_ | refine .bx ?_ | refine .al ?_ | refine .st ?_ | refine .ad ?_ | refine .sb ?_ | refine .mf ?_ | refine .cl ?_ | refine .cw ?_ | refine .ck ?_ | refine A.add rfl rfl ?_ | fail
    change HCode _ _ _ _ _ _ _
    refine HCode.loop (fun n s σ => ∃ (j : Nat) (c' : Int), n = l[k].rows.length - j ∧ j ≤ l[k].rows.length ∧ lightRows l[k].rows (w64 (w64 (c + 1) + l[k].name.length)) = lightRows (l[k].rows.drop j) c' ∧ σ = ⟨[], []⟩ ∧ s = [(5, .int .i64 j), (3, .int .i64 c'), (4, .int .i64 k), (0, Tbls.enc l)])
      (s0 := [(5, .int .i64 (0 : Nat)), (3, .int .i64 (w64 (w64 (c + 1) + l[k].name.length))), (4, .int .i64 k), (0, Tbls.enc l)]) ⟨rfl, rfl, rfl, rfl, trivial⟩ ⟨0, _, rfl, Nat.zero_le _, rfl, rfl, rfl⟩ ?_
    rintro n s σ ⟨j, c', rfl, hj, hp2, rfl, rfl⟩
    by_cases h2 : j < l[k].rows.length
    · have d2 : decide ((j : Int) < (l[k].rows.length : Int)) = true := by simp [h2]
      have x2 := map_get' (f := Row.enc) h2
      have hlr := lightRow l[k].rows[j] (hs _ (List.getElem_mem h1) _ (List.getElem_mem h2))
      repeat' first | refine .seq ?_ | refine .rg ?_ | refine .rd ?_ | refine .block ?_ | refine .scope ?_ | refine .skip ?_ | refine .label ?_ | refine .exit ?_ | refine .ret ?_ | refine .ct ?_ | refine .cf ?_ | refine .cy ?_ | refine .cn ?_ | (refine .cond rfl ?_ ?_ <;> intro hc) | refine A.nil_seq ?_ | refine .nl ?_ | refine .dd ?_ | refine .ys ?_ | refine .no ?_ | (refine A.guard rfl ?_ ?_ <;> intro hc) | refine .lb ?_ | refine .ln ?_ | refine .ls ?_ | refine .pv ?_ | refine .ix ?_ | refine .pt ?_ | refine .pf ?_ | refine .bx ?_ | refine .al ?_ | refine .st ?_ | refine .ad ?_ | refine .sb ?_ | refine .mf ?_ | refine .cl ?_ | refine .cw ?_ | refine .ck ?_ | refine A.call rfl hlr (WeakL.refl _) ?_ | refine A.add rfl rfl ?_ | fail
      exact ⟨l[k].rows.length - (j + 1), by omega, [(5, .int .i64 ((j + 1 : Nat) : Int)), (3, .int .i64 (w64 (c' + lightRowI l[k].rows[j]))), (4, .int .i64 k), (0, Tbls.enc l)],
        ⟨rfl, rfl, rfl, rfl, trivial⟩, by simp [belowS, AV.low, Tbls.enc, Tbl.lowL], rfl, j + 1, _, rfl, by omega, by rw [hp2, lightRows_drop h2], rfl, rfl⟩
    · have d2 : decide ((j : Int) < (l[k].rows.length : Int)) = false := by simp; omega
      rw [List.drop_eq_nil_of_le (by omega), lightRows] at hp2
      rw [hp2] at hp
      repeat' first | refine .seq ?_ | refine .rg ?_ | refine .rd ?_ | refine .block ?_ | refine .scope ?_ | refine .skip ?_ | refine .label ?_ | refine .exit ?_ | refine .ret ?_ | refine .ct ?_ | refine .cf ?_ | refine .cy ?_ | refine .cn ?_ | (refine .cond rfl ?_ ?_ <;> intro hc) | refine A.nil_seq ?_ | refine .nl ?_ | refine .dd ?_ | refine .ys ?_ | refine .no ?_ | (refine A.guard rfl ?_ ?_ <;> intro hc) | refine .lb ?_ | refine .ln ?_ | refine .ls ?_ | refine .pv ?_ | refine .ix ?_ | refine .pt ?_ | refine .pf ?_ | refine .bx ?_ | refine .al ?_ | refine .st ?_ | refine .ad ?_ | refine .sb ?_ | refine .mf ?_ | refine .cl ?_ | refine .cw ?_ | refine .ck ?_ | fail
      exact ⟨l.length - (k + 1), by omega, [(4, .int .i64 ((k + 1 : Nat) : Int)), (3, .int .i64 c'), (0, Tbls.enc l)],
        ⟨rfl, rfl, rfl, trivial⟩, by simp [belowS, AV.low, Tbls.enc, Tbl.lowL], rfl, k + 1, _, rfl, by omega, hp, rfl, rfl⟩
  · have d1 : decide ((k : Int) < (l.length : Int)) = false := by simp; omega
    rw [List.drop_eq_nil_of_le (by omega), lightTs] at hp
    repeat' first | refine .seq ?_ | refine .rg ?_ | refine .rd ?_ | refine .block ?_ | refine .scope ?_ | refine .skip ?_ | refine .label ?_ | refine .exit ?_ | refine .ret ?_ | refine .ct ?_ | refine .cf ?_ | refine .cy ?_ | refine .cn ?_ | (refine .cond rfl ?_ ?_ <;> intro hc) | refine A.nil_seq ?_ | refine .nl ?_ | refine .dd ?_ | refine .ys ?_ | refine .no ?_ | (refine A.guard rfl ?_ ?_ <;> intro hc) | refine .lb ?_ | refine .ln ?_ | refine .ls ?_ | refine .pv ?_ | refine .ix ?_ | refine .pt ?_ | refine .pf ?_ | refine .bx ?_ | refine .al ?_ | refine .st ?_ | refine .ad ?_ | refine .sb ?_ | refine .mf ?_ | refine .cl ?_ | refine .cw ?_ | refine .ck ?_ | fail
    refine Fin.ret1 rfl (Weak.eq ?_)
    unfold lightT
    rw [hp]
end Go.Proofs.Ytegakkonlhmeaaa
namespace Go.Proofs.Ytegakkonlhmeaaa
open Go Go.Av
def tabSize (l : List Tbl) : Nat := sumSize Tbl.size l
theorem fine_of {l : List Tbl} {n : Nat} (h : tabSize l ≤ n) : Fine n l := by
  have hl := sumSize_length (size := Tbl.size) (fun t => by unfold Tbl.size; omega) l
  refine ⟨by unfold tabSize at h; omega, fun t ht => ?_, fun t ht r hr => ?_⟩
  · have h1 := sumSize_mem (size := Tbl.size) ht
    have h2 := sumSize_length (size := Row.size) (fun r => by unfold Row.size; omega) t.rows
    have h3 : t.size = t.name.length + sumSize Row.size t.rows + 2 := rfl
    unfold tabSize at h; omega
  · have h1 := sumSize_mem (size := Tbl.size) ht
    have h2 := sumSize_mem (size := Row.size) hr
    have h3 := sumSize_length (size := Mem.size) Mem.size_pos r.cols
    have h4 : t.size = t.name.length + sumSize Row.size t.rows + 2 := rfl
    have h5 : r.size = r.key.length + r.typ.length + sumSize Mem.size r.cols + 4 := rfl
    unfold tabSize at h; omega
theorem cols_of {l : List Tbl} {n : Nat} (h : tabSize l ≤ n) : ∀ t ∈ l, ∀ r ∈ t.rows, sumSize Mem.size r.cols ≤ n := fun t ht r hr => by
  have h1 := sumSize_mem (size := Tbl.size) ht
  have h2 := sumSize_mem (size := Row.size) hr
  have h4 : t.size = t.name.length + sumSize Row.size t.rows + 2 := rfl
  have h5 : r.size = r.key.length + r.typ.length + sumSize Mem.size r.cols + 4 := rfl
  unfold tabSize at h; omega
theorem light_of (l : List Tbl) (n : Nat) (h : tabSize l ≤ n) (hn : n ≤ 1048576) : PFn Try.prog 4 [Tbls.enc l] (.bool (lightT l)) := by
  have hf := fine_of h
  exact light l (by have := hf.len; omega) (fun t ht => by have := hf.rows t ht; omega) (fun t ht r hr => by have := cols_of h t ht r hr; omega)
end Go.Proofs.Ytegakkonlhmeaaa
namespace Go.Proofs.Ytegakkonlhmeaaa
open Go Go.Av
attribute [local irreducible] HCode AOps PFn AFn Av.Step TStep
theorem arg (n : Str) (v : Val) : PFn Try.prog 8 [.str n, v.enc] (Mem.mk n v).enc := by
  refine AFn.plain (Mem.closed _) (by simp [AV.closedL, AV.closed, Val.closed]) (AFn.enterR [.cell 4 32] Try.func8 rfl rfl rfl rfl rfl ?_)
  repeat' first | refine A.box_r rfl rfl ?_ | refine .seq ?_ | refine .rg ?_ | refine .rd ?_ | refine .block ?_ | refine .scope ?_ | refine .skip ?_ | refine .label ?_ | refine .exit ?_ | refine .ret ?_ | refine .ct ?_ | refine .cf ?_ | refine .cy ?_ | refine .cn ?_ | (refine .cond rfl ?_ ?_ <;> intro hc) | refine A.nil_seq ?_ | refine .nl ?_ | refine .dd ?_ | refine .ys ?_ | refine .no ?_ | (refine A.guard rfl ?_ ?_ <;> intro hc) | refine .lb ?_ | refine .ln ?_ | refine .ls ?_ | refine .pv ?_ | refine .ix ?_ | refine .pt ?_ | refine .pf ?_ | refine .bx ?_ | refine .al ?_ | refine .st ?_ | refine .ad ?_ | refine .sb ?_ | refine .mf ?_ | refine .cl ?_ | refine .cw ?_ | refine .ck ?_ | fail | fail
  exact FinR.ret1 rfl (Weak.refl _)
def aCmd : Cmd := ⟨sPut, [116], [], [84], [.mk sKey (textV [107]), .mk [97] (intV 1)]⟩
def aTbl : List Tbl := [⟨[116], [⟨[107], [84], [.mk [97] (intV 1)], false⟩]⟩]
def bCmd : Cmd := ⟨sBurn, [], [], [], []⟩
theorem aDo : cmdG [] aCmd = (aTbl, textV [107], 0) := rfl
theorem bDo : cmdG aTbl bCmd = (aTbl, val0, 11) := rfl
theorem fineA : Fine 10 aTbl := ⟨by decide, by simp [aTbl], by simp [aTbl]⟩
theorem fine0 : Fine 0 [] := ⟨by decide, by simp, by simp⟩
theorem awake : PFn Try.prog 6 [] (.bool true) := by
  refine AFn.plain rfl rfl (AFn.enter [0] Try.func6 rfl rfl rfl rfl rfl (by decide) ?_)
  have h1 := cmdDo [] aCmd fine0 (by decide)
  have h2 := cmdDo aTbl bCmd fineA (by decide)
  rw [aDo] at h1
  rw [bDo] at h2
  have a1 := arg sKey (textV [107])
  have a2 := arg [97] (intV 1)
  have hk := known sCut
  repeat' first | refine .seq ?_ | refine .rg ?_ | refine .rd ?_ | refine .block ?_ | refine .scope ?_ | refine .skip ?_ | refine .label ?_ | refine .exit ?_ | refine .ret ?_ | refine .ct ?_ | refine .cf ?_ | refine .cy ?_ | refine .cn ?_ | (refine .cond rfl ?_ ?_ <;> intro hc) | refine A.nil_seq ?_ | refine .nl ?_ | refine .dd ?_ | refine .ys ?_ | refine .no ?_ | (refine A.guard rfl ?_ ?_ <;> intro hc) | refine .lb ?_ | refine .ln ?_ | refine .ls ?_ | refine .pv ?_ | refine .ix ?_ | refine .pt ?_ | refine .pf ?_ | refine .bx ?_ | refine .al ?_ | refine .st ?_ | refine .ad ?_ | refine .sb ?_ | refine .mf ?_ | refine .cl ?_ | refine .cw ?_ | refine .ck ?_ | refine A.call rfl a1 (WeakL.cons (Weak.refl _) (WeakL.cons weak_flatV (WeakL.refl _))) ?_ | refine A.call rfl a2 (WeakL.cons (Weak.refl _) (WeakL.cons weak_flatV (WeakL.refl _))) ?_ | refine A.call rfl h1 (WeakL.cons (Weak.no (WeakL.refl _)) (WeakL.cons (Weak.agg (WeakL.cons (Weak.refl _) (WeakL.cons (Weak.refl _) (WeakL.cons (Weak.refl _) (WeakL.cons (Weak.refl _) (WeakL.cons (Weak.no (WeakL.refl _)) (WeakL.refl _))))))) (WeakL.refl _))) ?_ | refine A.call rfl h2 (WeakL.cons (Weak.refl _) (WeakL.cons (Weak.agg (WeakL.cons (Weak.refl _) (WeakL.cons (Weak.refl _) (WeakL.cons (Weak.refl _) (WeakL.cons (Weak.refl _) (WeakL.cons (Weak.no (WeakL.refl _)) (WeakL.refl _))))))) (WeakL.refl _))) ?_ | refine A.call rfl hk (WeakL.refl _) ?_ | refine A.index_r (j := 0) rfl rfl rfl rfl rfl rfl rfl rfl ?_ | fail
  all_goals exact Fin.ret1 rfl (Weak.refl _)
theorem intV_size (n : Int) : (intV n).size = 6 := by rw [intV, Val.size, Val.sizeL_eq, Val.sizeM_eq, sumSize, sumSize]; rfl
end Go.Proofs.Ytegakkonlhmeaaa
namespace Go.Proofs.Ytegakkonlhmeaaa
open Go Go.Av
theorem putRows_all {Q : Row → Prop} {rows : List Row} {r : Row} (h : ∀ x ∈ rows, Q x) (hr : Q r) : ∀ x ∈ putRows rows r, Q x := by
  unfold putRows
  split
  · intro x hx
    rcases List.mem_append.1 hx with h1 | h1
    · exact h x h1
    · rw [List.mem_singleton.1 h1]; exact hr
  · intro x hx
    rcases List.mem_or_eq_of_mem_set hx with h1 | rfl
    · exact h x h1
    · exact hr
theorem putRows_len (rows : List Row) (r : Row) : (putRows rows r).length ≤ rows.length + 1 := by
  unfold putRows; split <;> simp
theorem modAt_mem {α : Type} {l : List α} {i : Nat} {f : α → α} {x : α} (h : x ∈ modAt l i f) : x ∈ l ∨ ∃ y ∈ l, x = f y := by
  unfold modAt at h
  split at h
  · rename_i y hy
    rcases List.mem_or_eq_of_mem_set h with h1 | rfl
    · exact .inl h1
    · exact .inr ⟨y, List.mem_of_getElem? hy, rfl⟩
  · exact .inl h
theorem modAt_len {α : Type} {l : List α} {i : Nat} {f : α → α} : (modAt l i f).length = l.length := by
  unfold modAt; split <;> simp
theorem putG_mem {l : List Tbl} {name : Str} {r : Row} {t : Tbl} (h : t ∈ putG l name r) : t ∈ l ∨ t.rows = [r] ∨ ∃ y ∈ l, t.rows = putRows y.rows r := by
  unfold putG at h
  split at h
  · rcases List.mem_append.1 h with h1 | h1
    · exact .inl h1
    · rw [List.mem_singleton.1 h1]; exact .inr (.inl rfl)
  · rcases modAt_mem h with h1 | ⟨y, hy, rfl⟩
    · exact .inl h1
    · exact .inr (.inr ⟨y, hy, rfl⟩)
theorem putG_len (l : List Tbl) (name : Str) (r : Row) : (putG l name r).length ≤ l.length + 1 := by
  unfold putG; split
  · simp
  · rw [modAt_len]; omega
def Slim (B R : Nat) (r : Row) : Prop := r.cols.length ≤ B ∧ sumSize Mem.size r.cols ≤ R
def Slims (B R : Nat) (l : List Tbl) : Prop := l.length ≤ B ∧ (∀ t ∈ l, t.rows.length ≤ B) ∧ ∀ t ∈ l, ∀ r ∈ t.rows, Slim B R r
theorem Slims.fine {B R : Nat} {l : List Tbl} (h : Slims B R l) : Fine B l := ⟨h.1, h.2.1, fun t ht r hr => (h.2.2 t ht r hr).1⟩
theorem put_slims {B R : Nat} {l : List Tbl} {name : Str} {r : Row} {a b : Nat} (h : Slims B R l) (hr : Slim (B + a + 1) (R + b) r) : Slims (B + a + 1) (R + b) (putG l name r) := by
  have up : ∀ x, Slim B R x → Slim (B + a + 1) (R + b) x := fun x hx => ⟨by have := hx.1; omega, by have := hx.2; omega⟩
  refine ⟨by have := putG_len l name r; have := h.1; omega, fun t ht => ?_, fun t ht => ?_⟩
  · rcases putG_mem ht with h1 | h1 | ⟨y, hy, h1⟩
    · have := h.2.1 t h1; omega
    · rw [h1]; simp
    · rw [h1]; have := putRows_len y.rows r; have := h.2.1 y hy; omega
  · rcases putG_mem ht with h1 | h1 | ⟨y, hy, h1⟩
    · exact fun x hx => up x (h.2.2 t h1 x hx)
    · rw [h1]; intro x hx; rw [List.mem_singleton.1 hx]; exact hr
    · rw [h1]; exact putRows_all (fun x hx => up x (h.2.2 y hy x hx)) hr
end Go.Proofs.Ytegakkonlhmeaaa
