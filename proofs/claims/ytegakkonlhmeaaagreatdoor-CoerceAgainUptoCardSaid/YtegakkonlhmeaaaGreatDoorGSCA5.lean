/-
  Contracts and plain facts for a law, joined.
-/
import Derived.Test.YtegakkonlhmeaaaGreatDoorGSCA4
import Derived.Test.YtegakkonlhmeaaaGreatDoorAvVec5
set_option maxRecDepth 100000
set_option maxHeartbeats 16000000
set_option linter.unusedVariables false
set_option linter.unusedSimpArgs false
set_option linter.unusedSectionVars false
namespace Go.Proofs.YtegakkonlhmeaaaGreatDoor
open Go Go.Av
attribute [local irreducible] HCode AOps PFn AFn Av.Step TStep
abbrev R3 := Val × Bool × Int
def memsF (R : Par → R3) : List Par → List Mem × Int
  | [] => ([], 0)
  | p :: ps => if (R p).2.2 ≠ 0 then ([], (R p).2.2) else if (memsF R ps).2 ≠ 0 then ([], (memsF R ps).2) else (if (R p).2.1 = true then .mk p.name (R p).1 :: (memsF R ps).1 else (memsF R ps).1, 0)
theorem memsMk_F (s : Sch) (wr within : Bool) (env : List Mem) (dfl : Par → VE) (fs : List MF) : ∀ ps : List Par, memsMk s wr within env dfl fs ps = memsF (memMk s wr within env dfl fs) ps
  | [] => rfl
  | p :: ps => by
    have ih := memsMk_F s wr within env dfl fs ps
    rw [memsMk, memsF, ih]
def memsA (R : Par → R3) : List Par → List Mem
  | [] => []
  | p :: ps => (if (R p).2.1 = true then [.mk p.name (R p).1] else []) ++ memsA R ps
theorem memsA_app (R : Par → R3) : ∀ a b : List Par, memsA R (a ++ b) = memsA R a ++ memsA R b
  | [], b => rfl
  | p :: a, b => by rw [List.cons_append, memsA, memsA, memsA_app R a b, List.append_assoc]
theorem memsA_len (R : Par → R3) : ∀ a : List Par, (memsA R a).length ≤ a.length
  | [] => Nat.le_refl _
  | p :: a => by
    have := memsA_len R a
    rw [memsA, List.length_append, List.length_cons]
    split <;> simp <;> omega
theorem memsF_err (R : Par → R3) : ∀ l, (memsF R l).2 ≠ 0 → (memsF R l).1 = []
  | [], _ => rfl
  | p :: l, h => by
    rw [memsF] at h ⊢
    by_cases c : (R p).2.2 ≠ 0
    · rw [if_pos c]
    · rw [if_neg c] at h ⊢
      by_cases d : (memsF R l).2 ≠ 0
      · rw [if_pos d]
      · rw [if_neg d] at h; exact absurd rfl h
def memsJ (R : Par → R3) (l : List Par) (k : Nat) : Prop :=
  memsF R l = if (memsF R (l.drop k)).2 ≠ 0 then ([], (memsF R (l.drop k)).2) else (memsA R (l.take k) ++ (memsF R (l.drop k)).1, 0)
theorem memsJ_zero (R : Par → R3) (l : List Par) : memsJ R l 0 := by
  unfold memsJ
  rw [List.drop_zero, List.take_zero, memsA, List.nil_append]
  by_cases h : (memsF R l).2 ≠ 0
  · rw [if_pos h, ← memsF_err R l h]
  · rw [if_neg h]
    have h' : (memsF R l).2 = 0 := by simpa using h
    rw [← h']
section
variable {R : Par → R3} {l : List Par} {k : Nat} (h : k < l.length) (hj : memsJ R l k)
include h hj
theorem memsJ_err (he : (R l[k]).2.2 ≠ 0) : memsF R l = ([], (R l[k]).2.2) := by
  unfold memsJ at hj
  have e : memsF R (l.drop k) = ([], (R l[k]).2.2) := by rw [List.drop_eq_getElem_cons h, memsF, if_pos he]
  rw [hj, e, if_pos he]
theorem memsJ_next (he : (R l[k]).2.2 = 0) : memsJ R l (k + 1) := by
  unfold memsJ at hj ⊢
  have e : memsF R (l.drop k) = if (memsF R (l.drop (k + 1))).2 ≠ 0 then ([], (memsF R (l.drop (k + 1))).2) else (if (R l[k]).2.1 = true then .mk l[k].name (R l[k]).1 :: (memsF R (l.drop (k + 1))).1 else (memsF R (l.drop (k + 1))).1, 0) := by
    rw [List.drop_eq_getElem_cons h, memsF, if_neg (by rw [he]; simp)]
  rw [hj, e, List.take_succ_eq_append_getElem h, memsA_app]
  generalize memsF R (l.drop (k + 1)) = q
  obtain ⟨q1, q2⟩ := q
  by_cases c : q2 = 0
  · subst c
    cases b : (R l[k]).2.1 <;> simp [memsA, b]
  · simp [c]
end
theorem memsJ_end {R : Par → R3} {l : List Par} (hj : memsJ R l l.length) : memsF R l = (memsA R l, 0) := by
  unfold memsJ at hj
  rw [List.drop_length, List.take_length, memsF, if_neg (by simp), List.append_nil] at hj
  exact hj
theorem Fin.ret2C {t1 t2 : Nat} {s : Slots} {v1 v2 r : AV} (h1 : lk? s t1 = some v1) (h2 : lk? s t2 = some v2) (hw : Weak (.tup [v1, v2]) r) : ∃ v', AEnd.ret (resAV s [t1, t2]) = .ret v' ∧ Weak v' r :=
  ⟨_, rfl, by rw [show resAV s [t1, t2] = .tup [v1, v2] by unfold resAV; simp only [List.map_cons, List.map_nil, lk_of h1, lk_of h2]]; exact hw⟩
theorem cMembers (s : Sch) (wr within : Bool) (env g : List Mem) (ps : List Par) (R : Par → R3) (hps : ps.length ≤ 68719476736)
    (hR : ∀ p ∈ ps, PFn Tryz.prog 228 [mkE s wr within env, p.enc, .slice (g.map Mem.enc) .no] (M3.enc (R p))) :
    PFn Tryz.prog 209 [mkE s wr within env, .slice (ps.map Par.enc) .no, .slice (g.map Mem.enc) .no] (.tup [.slice ((memsF R ps).1.map Mem.enc) .no, .int .i64 (memsF R ps).2]) := by
  refine AFn.plain (by simp [AV.closed, AV.closedL, Mem.closedL]) (by simp [AV.closed, AV.closedL, mkE_closed, Par.closedL, Mem.closedL]) (AFn.enter [6, 7] Tryz.func209 rfl rfl rfl rfl rfl (by decide) ?_)
  repeat' first | refine .br ?_ | refine .seq ?_ | refine .rg ?_ | refine .rd ?_ | refine .block ?_ | refine .scope ?_ | refine .skip ?_ | refine .label ?_ | refine .exit ?_ | refine .ret ?_ | refine .ct ?_ | refine .cf ?_ | refine .cy ?_ | refine .cn ?_ | (refine .cond rfl ?_ ?_ <;> intro hc) | refine A.nil_seq ?_ | refine .nl ?_ | refine .dd ?_ | refine .ys ?_ | refine .no ?_ | (refine A.guard rfl ?_ ?_ <;> intro hc) | refine .lb ?_ | refine .ln ?_ | refine .ls ?_ | refine .pv ?_ | refine .ix ?_ | refine .pt ?_ | refine .pf ?_ | refine .bx ?_ | refine .al ?_ | refine .st ?_ | refine .ad ?_ | refine .sb ?_ | refine .mf ?_ | refine .cl ?_ | refine .cw ?_ | refine .ck ?_ | fail
  refine HCode.adopt 8 true 6 rfl rfl rfl rfl rfl rfl ?_
  refine HCode.forK ps.length (fun k => [(16, .int .i64 k), (15, .int .i64 ps.length), (14, .slice (ps.map Par.enc) .no), (2, .slice (g.map Mem.enc) .no), (3, .rptr (mkE s wr within env)), (8, .slice ((memsA R (ps.take k)).map Mem.enc) (.own 0 6))])
    (fun k => ⟨[], [.len (memsA R (ps.take k)).length]⟩) (memsJ R ps) ⟨rfl, rfl, rfl, rfl, rfl, rfl, trivial⟩ rfl (memsJ_zero R ps) fun k hk hj => ?_
  by_cases h1 : k < ps.length
  · have d1 : decide ((k : Int) < (ps.length : Int)) = true := by simp [h1]
    have x1 := map_get' (f := Par.enc) h1
    have hm := hR ps[k] (List.getElem_mem h1)
    have je := memsJ_err h1 hj
    have jn := memsJ_next h1 hj
    have hla := memsA_len R (ps.take k)
    rw [List.length_take] at hla
    have htk : memsA R (ps.take (k + 1)) = memsA R (ps.take k) ++ (if (R ps[k]).2.1 = true then [.mk ps[k].name (R ps[k]).1] else []) := by
      rw [List.take_succ_eq_append_getElem h1, memsA_app, memsA, memsA, List.append_nil]
    generalize R ps[k] = r at hm je jn htk
    obtain ⟨rv, rb, re⟩ := r
    unfold M3.enc at hm
    simp only at hm je jn htk
    by_cases er : re = 0
    · subst er
      have jn' := jn rfl
      cases rb with
      | true =>
        rw [if_pos rfl] at htk
        repeat' first | refine .seq ?_ | refine .rg ?_ | refine .rd ?_ | refine .block ?_ | refine .scope ?_ | refine .skip ?_ | refine .label ?_ | refine .exit ?_ | refine .ret ?_ | refine .ct ?_ | refine .cf ?_ | refine .cy ?_ | refine .cn ?_ | (refine .cond rfl ?_ ?_ <;> intro hc) | refine A.nil_seq ?_ | refine .nl ?_ | refine .dd ?_ | refine .ys ?_ | refine .no ?_ | (refine A.guard rfl ?_ ?_ <;> intro hc) | refine .lb ?_ | refine .ln ?_ | refine .ls ?_ | refine .pv ?_ | refine .ix ?_ | refine .pt ?_ | refine .pf ?_ | refine .bx ?_ | refine .al ?_ | refine .st ?_ | refine .ad ?_ | refine .sb ?_ | refine .mf ?_ | refine .cl ?_ | refine .cw ?_ | refine .ck ?_ | refine A.append (n := (memsA R (ps.take k)).length) rfl rfl rfl rfl rfl rfl rfl rfl (List.length_map ..) rfl (by dsimp only [List.length_cons, List.length_nil]; omega) (by dsimp only [List.length_cons, List.length_nil]; omega) rfl ?_ | fail
        exact ⟨h1, ⟨rfl, rfl, rfl, rfl, rfl, by rw [htk, List.map_append]; rfl, trivial⟩, by simp [belowS, AV.low, AV.low_of_closed, mkE_closed], by simp [belowB, belowT, Ob.low, Tok.low, AV.lowL, AV.low], by rw [htk, List.length_append]; rfl, jn'⟩
      | false =>
        rw [if_neg (by decide), List.append_nil] at htk
        repeat' first | refine .seq ?_ | refine .rg ?_ | refine .rd ?_ | refine .block ?_ | refine .scope ?_ | refine .skip ?_ | refine .label ?_ | refine .exit ?_ | refine .ret ?_ | refine .ct ?_ | refine .cf ?_ | refine .cy ?_ | refine .cn ?_ | (refine .cond rfl ?_ ?_ <;> intro hc) | refine A.nil_seq ?_ | refine .nl ?_ | refine .dd ?_ | refine .ys ?_ | refine .no ?_ | (refine A.guard rfl ?_ ?_ <;> intro hc) | refine .lb ?_ | refine .ln ?_ | refine .ls ?_ | refine .pv ?_ | refine .ix ?_ | refine .pt ?_ | refine .pf ?_ | refine .bx ?_ | refine .al ?_ | refine .st ?_ | refine .ad ?_ | refine .sb ?_ | refine .mf ?_ | refine .cl ?_ | refine .cw ?_ | refine .ck ?_ | fail
        exact ⟨h1, ⟨rfl, rfl, rfl, rfl, rfl, by rw [htk]; rfl, trivial⟩, by simp [belowS, AV.low, AV.low_of_closed, mkE_closed], by simp [belowB, belowT, Ob.low, Tok.low, AV.lowL, AV.low], by rw [htk]; rfl, jn'⟩
    · have er' : (re != 0) = true := by simpa using er
      rw [je er]
      repeat' first | refine .seq ?_ | refine .rg ?_ | refine .rd ?_ | refine .block ?_ | refine .scope ?_ | refine .skip ?_ | refine .label ?_ | refine .exit ?_ | refine .ret ?_ | refine .ct ?_ | refine .cf ?_ | refine .cy ?_ | refine .cn ?_ | (refine .cond rfl ?_ ?_ <;> intro hc) | refine A.nil_seq ?_ | refine .nl ?_ | refine .dd ?_ | refine .ys ?_ | refine .no ?_ | (refine A.guard rfl ?_ ?_ <;> intro hc) | refine .lb ?_ | refine .ln ?_ | refine .ls ?_ | refine .pv ?_ | refine .ix ?_ | refine .pt ?_ | refine .pf ?_ | refine .bx ?_ | refine .al ?_ | refine .st ?_ | refine .ad ?_ | refine .sb ?_ | refine .mf ?_ | refine .cl ?_ | refine .cw ?_ | refine .ck ?_ | fail
      exact Fin.ret2C rfl rfl (Weak.tup (WeakL.cons (Weak.no (WeakL.refl _)) (WeakL.refl _)))
  · have d1 : decide ((k : Int) < (ps.length : Int)) = false := by simp; omega
    obtain rfl : k = ps.length := by omega
    rw [memsJ_end hj]
    repeat' first | refine .seq ?_ | refine .rg ?_ | refine .rd ?_ | refine .block ?_ | refine .scope ?_ | refine .skip ?_ | refine .label ?_ | refine .exit ?_ | refine .ret ?_ | refine .ct ?_ | refine .cf ?_ | refine .cy ?_ | refine .cn ?_ | (refine .cond rfl ?_ ?_ <;> intro hc) | refine A.nil_seq ?_ | refine .nl ?_ | refine .dd ?_ | refine .ys ?_ | refine .no ?_ | (refine A.guard rfl ?_ ?_ <;> intro hc) | refine .lb ?_ | refine .ln ?_ | refine .ls ?_ | refine .pv ?_ | refine .ix ?_ | refine .pt ?_ | refine .pf ?_ | refine .bx ?_ | refine .al ?_ | refine .st ?_ | refine .ad ?_ | refine .sb ?_ | refine .mf ?_ | refine .cl ?_ | refine .cw ?_ | refine .ck ?_ | fail
    refine Fin.ret2C rfl rfl (Weak.tup (WeakL.cons (Weak.no (WeakL.eq ?_)) (WeakL.refl _)))
    rw [List.take_length]
end Go.Proofs.YtegakkonlhmeaaaGreatDoor
namespace Go.Av
open Go
variable [Globals]
theorem A.allocv {P : Program} [Lay P] {all : Array Oper} {draw : Bool} {K : AX → Slots → St → Prop} {rest : List Oper} {acc : List Tag} {s : Slots} {σ : St} {ty : TypeId} {pos : String} {af : Array Edge} {d : Tmp} {T : TypeId} {k z : Nat} {x : AV} {T' : List Tok} {ti : TI} (hT : ty? P T = some ti) (hz' : ti.size = z) (hx : ti.zero = x)
    (hk : smallLen σ.T = some k) (hT' : snocK σ.T (.vec [x]) some = some T')
    (kk : AOps P all draw K rest (.tk :: acc) ((d, .vptr k z 1 0 0) :: s) ⟨σ.B, T'⟩) : AOps P all draw K (⟨some d, .alloc T, ty, pos, af, none⟩ :: rest) acc s σ :=
  A.step (t := .tk) (σ' := ⟨σ.B, T'⟩) rfl ⟨rfl, fun B => by
    intro g w a next Q hI ho hn
    subst hz'; subst hx
    obtain ⟨zv, hz, hz1, hz2, hz3⟩ := run_zero' hT w
    have h1 : Rep g w ti.zero zv := by rw [← hz1]; exact rep_ofConst g w zv
    have hTe : σ.T ++ [.vec [ti.zero]] = T' := Option.some.inj (snocK_spec _ _ _ _ hT')
    have hkl : σ.T.length = k := smallLen_spec hk
    have hnone : g.tk[k]? = none := by
      have hlt : g.tk.length = σ.T.length := hI.lenT
      rw [← hkl, ← hlt]; simp
    have hzone : ∀ b o, (⟨some ⟨w.heap.size, 0, none⟩, 1, 1, ti.size, 0⟩ : Rec).zone b o → b = w.heap.size ∧ o < zv.cells.size := by
      rintro b o ⟨p, hp, rfl, e1, e2⟩
      cases hp
      refine ⟨rfl, ?_⟩
      rw [hz2]
      simpa using e2
    obtain ⟨g', e1, e2, e3, _⟩ := retk (k := k) (r' := ⟨some ⟨w.heap.size, 0, none⟩, 1, 1, ti.size, 0⟩) (t' := .vec [ti.zero]) (J := fun _ _ => False) hI (w' := pushW w (.cells zv.cells T)) (.inr ⟨hkl.symm, rfl⟩)
      (by rw [push_size]; exact Nat.le_succ _) rfl rfl rfl (fun b hb _ => push_old w _ hb) (fun b o hb _ => (cell_old (push_old w _ hb)).1) (fun b o hb => (cell_old (push_old w _ hb)).2) (fun _ _ h => h.elim)
      (fun b o ho => by
        obtain ⟨rfl, h2⟩ := hzone b o ho
        exact ⟨⟨zv.cells[o], (new_data_cell w zv.cells T o).trans (Array.getElem?_eq_getElem h2)⟩, new_data_frozen w zv.cells T o, .inl (Nat.le_refl _)⟩)
      (fun r hr => by rw [hnone] at hr; cases hr)
      (fun g' hle => ⟨rfl, rfl, Nat.le_refl _, [zv], ⟨zv, [], rfl, Rep.mono hle _ _ h1, rfl⟩, (fun e => by cases e), (fun V hV => by rw [List.mem_singleton.1 hV]; exact hz2), (fun p hp => by
        cases hp
        refine ⟨.inl rfl, inMemE_of_flat (fun V hV => by rw [List.mem_singleton.1 hV]; exact hz2) fun j u hj => ?_⟩
        have hj' : zv.cells.toList[j]? = some u := by simpa [flat] using hj
        refine ⟨trivial, ?_, hz3 u (List.mem_of_getElem? hj')⟩
        show (pushW w (.cells zv.cells T)).cell? ⟨w.heap.size, 0 + j, none⟩ = some u
        rw [Nat.zero_add]
        exact (new_data_cell w zv.cells T j).trans (by simpa using hj'))⟩)
    unfold Oper.wp
    simp only [execOp, Instr.alloc, hz, newVar, newRow, newObj, Sem.run_bind, Result.andThen, Sem.run]
    exact hn _ _ _ e1 (hTe ▸ e2) ⟨w.heap.size, 0, rfl, by omega, _, e3, rfl, Nat.le_refl _, fun _ => ⟨rfl, _, rfl, rfl, rfl, by simp⟩⟩⟩ kk
theorem Turn.freezeP {σ : St} {k z n j : Nat} {xs : List AV} {y : AV} {T' : List Tok} (hT : σ.T[k]? = some (.vec xs)) (hn : xs.length = n) (hy : xs[j]? = some y) (hT' : setTK k (.len (n + 1)) σ.T some = some T') :
    Turn σ (.vptr k z n j 0) ⟨σ.B, T'⟩ (.rptr y) := fun g w v hI hr => by
  obtain ⟨kl, hTe⟩ := setTK_spec _ _ _ _ _ hT'
  obtain ⟨r0, Vs, p, hv, hp, hps, rfl, hj⟩ := vptr_at hI hr hT hn
  obtain ⟨V, hV, hrV⟩ := hv.rep.get hy
  have hkl : k < σ.T.length := (List.getElem?_eq_some_iff.1 hT).1
  obtain ⟨g', e1, e2, e3, e4⟩ := retk (r' := ⟨none, n + 1, 0, z, n + 1⟩) (t' := .len (n + 1)) (J := fun b o => r0.zone b o) hI (w' := w) (.inl ⟨hkl, rfl⟩) (Nat.le_refl _) rfl rfl rfl (fun _ _ _ => rfl) (fun _ _ _ _ => rfl) (fun _ _ _ => rfl)
    (fun b o hzo => ⟨(fun ⟨p, hp, _⟩ => by cases hp), hI.z_lt hv.hr hzo, .inr ⟨r0, hv.hr, hzo⟩⟩)
    (fun b o ⟨p, hp, _⟩ => by cases hp) (fun r1 hr1 => by
      have : r1 = r0 := Option.some.inj (hr1.symm.trans hv.hr)
      subst this
      exact .inr ⟨by rw [hv.n, hn]; show n < n + 1; omega, by rw [hv.sz]⟩) (fun g' _ => ⟨rfl, rfl⟩)
  refine ⟨g', e1, ?_, p.block, p.off + j * z + 0, V, rfl, fun i x hi => ?_, Rep.mono e1.le _ _ hrV⟩
  · rw [← Option.some.inj hTe]; exact e2
  · obtain ⟨m1, m2⟩ := (hv.mem p hp).2 j V hV
    obtain ⟨_, m3, m4⟩ := m2 i x hi
    have hi' : i < z := by have := (Array.getElem?_eq_some_iff.1 hi).1; omega
    have hb : (j + 1) * z ≤ r0.cap * z := Nat.mul_le_mul_right _ (by have := hv.cap; have := hv.len; omega)
    rw [Nat.succ_mul] at hb
    have hz := hv.zone hp (o := j * z + i) (by omega)
    rw [← Nat.add_assoc] at hz
    rw [Nat.add_zero]
    exact ⟨e4 _ _ hz, m3, m4⟩
end Go.Av
namespace Go.Proofs.YtegakkonlhmeaaaGreatDoor
open Go Go.Av
attribute [local irreducible] HCode AOps PFn AFn Av.Step TStep
theorem weak_zeroP {t1 t2 : Tk} : Weak (.agg [.str [], .str [], .int .i64 0, .int .i64 0, .bool false, .int .i64 0, .int .i64 0, .str [], .slice [] t1, .slice [] t2]) zeroP.enc := by
  unfold Par.enc zeroP
  rw [show (val0).lv = [] by rw [val0, lv_mk], show (val0).mv = [] by rw [val0, mv_mk]]
  exact Weak.agg (WeakL.cons (Weak.refl _) (WeakL.cons (Weak.refl _) (WeakL.cons (Weak.refl _) (WeakL.cons (Weak.refl _) (WeakL.cons (Weak.refl _) (WeakL.cons (Weak.refl _) (WeakL.cons (Weak.refl _) (WeakL.cons (Weak.refl _) (WeakL.cons (Weak.no (WeakL.refl _)) (WeakL.cons (Weak.no (WeakL.refl _)) (WeakL.refl _)))))))))))
theorem lParam1 (p : Par) (name : Str) : PFn Tryz.prog 205 [p.enc, .rptr (.str name)] (.bool (p.name == name)) := by
  refine AFn.plain rfl (by simp [AV.closed, AV.closedL, Par.closed]) (AFn.enter [3] Tryz.func205 rfl rfl rfl rfl rfl (by decide) ?_)
  repeat' first | refine .br ?_ | refine .seq ?_ | refine .rg ?_ | refine .rd ?_ | refine .block ?_ | refine .scope ?_ | refine .skip ?_ | refine .label ?_ | refine .exit ?_ | refine .ret ?_ | refine .ct ?_ | refine .cf ?_ | refine .cy ?_ | refine .cn ?_ | (refine .cond rfl ?_ ?_ <;> intro hc) | refine A.nil_seq ?_ | refine .nl ?_ | refine .dd ?_ | refine .ys ?_ | refine .no ?_ | (refine A.guard rfl ?_ ?_ <;> intro hc) | refine .lb ?_ | refine .ln ?_ | refine .ls ?_ | refine .pv ?_ | refine .ix ?_ | refine .pt ?_ | refine .pf ?_ | refine .bx ?_ | refine .al ?_ | refine .st ?_ | refine .ad ?_ | refine .sb ?_ | refine .mf ?_ | refine .cl ?_ | refine .cw ?_ | refine .ck ?_ | fail
  exact Fin.ret1 rfl (Weak.refl _)
theorem lParam (l : List Par) (name : Str) (hl : l.length ≤ 9223372036854775807) : PFn Tryz.prog 174 [.slice (l.map Par.enc) .no, .str name] (.tup [(parR l name).1.enc, .bool (parR l name).2]) := by
  have h := sIndexFPar l 205 [.rptr (.str name)] (fun p => p.name == name) hl rfl (fun x _ => lParam1 x name)
  refine AFn.plain (by simp [AV.closed, AV.closedL, Par.closed]) (by simp [AV.closed, AV.closedL, Par.closedL]) (AFn.enterR [.cell 4 50, .tmp 5] Tryz.func174 rfl rfl rfl rfl rfl ?_)
  rcases idxFrom_spec (fun p : Par => p.name == name) l 0 with ⟨h1, h2⟩ | ⟨j, hj, h1, h2⟩
  · rw [h1] at h
    repeat' first | refine .br ?_ | refine .seq ?_ | refine .rg ?_ | refine .rd ?_ | refine .block ?_ | refine .scope ?_ | refine .skip ?_ | refine .label ?_ | refine .exit ?_ | refine .ret ?_ | refine .ct ?_ | refine .cf ?_ | refine .cy ?_ | refine .cn ?_ | (refine .cond rfl ?_ ?_ <;> intro hc) | refine A.nil_seq ?_ | refine .nl ?_ | refine .dd ?_ | refine .ys ?_ | refine .no ?_ | (refine A.guard rfl ?_ ?_ <;> intro hc) | refine .lb ?_ | refine .ln ?_ | refine .ls ?_ | refine .pv ?_ | refine .ix ?_ | refine .pt ?_ | refine .pf ?_ | refine .bx ?_ | refine .al ?_ | refine .st ?_ | refine .ad ?_ | refine .sb ?_ | refine .mf ?_ | refine .cl ?_ | refine .cw ?_ | refine .ck ?_ | fail
    refine FinR.ret1 rfl ?_
    rw [parR, parO, h2]
    exact Weak.tup (WeakL.cons weak_zeroP (WeakL.refl _))
  · rw [h1] at h
    have d1 : decide (((0 + j : Nat) : Int) < 0) = false := decide_eq_false (by omega)
    have x1 : (l.map Par.enc)[0 + j]? = some l[j].enc := by rw [Nat.zero_add]; exact map_get' (f := Par.enc) hj
    repeat' first | refine .br ?_ | refine .seq ?_ | refine .rg ?_ | refine .rd ?_ | refine .block ?_ | refine .scope ?_ | refine .skip ?_ | refine .label ?_ | refine .exit ?_ | refine .ret ?_ | refine .ct ?_ | refine .cf ?_ | refine .cy ?_ | refine .cn ?_ | (refine .cond rfl ?_ ?_ <;> intro hc) | refine A.nil_seq ?_ | refine .nl ?_ | refine .dd ?_ | refine .ys ?_ | refine .no ?_ | (refine A.guard rfl ?_ ?_ <;> intro hc) | refine .lb ?_ | refine .ln ?_ | refine .ls ?_ | refine .pv ?_ | refine .ix ?_ | refine .pt ?_ | refine .pf ?_ | refine .bx ?_ | refine .al ?_ | refine .st ?_ | refine .ad ?_ | refine .sb ?_ | refine .mf ?_ | refine .cl ?_ | refine .cw ?_ | refine .ck ?_ | fail
    refine FinR.ret1 rfl (Weak.eq ?_)
    rw [parR, parO, h2]; rfl
theorem lRequired (p : Par) (hp : p.size ≤ 68719476736) : PFn Tryz.prog 203 [p.enc] (.bool (reqB p)) := by
  have h := wIs p.t (by have := p.lens; omega)
  refine AFn.plain rfl (by simp [AV.closed, AV.closedL, Par.closed]) (AFn.enter [2] Tryz.func203 rfl rfl rfl rfl rfl (by decide) ?_)
  unfold reqB
  repeat' first | refine .br ?_ | refine .seq ?_ | refine .rg ?_ | refine .rd ?_ | refine .block ?_ | refine .scope ?_ | refine .skip ?_ | refine .label ?_ | refine .exit ?_ | refine .ret ?_ | refine .ct ?_ | refine .cf ?_ | refine .cy ?_ | refine .cn ?_ | (refine .cond rfl ?_ ?_ <;> intro hc) | refine A.nil_seq ?_ | refine .nl ?_ | refine .dd ?_ | refine .ys ?_ | refine .no ?_ | (refine A.guard rfl ?_ ?_ <;> intro hc) | refine .lb ?_ | refine .ln ?_ | refine .ls ?_ | refine .pv ?_ | refine .ix ?_ | refine .pt ?_ | refine .pf ?_ | refine .bx ?_ | refine .al ?_ | refine .st ?_ | refine .ad ?_ | refine .sb ?_ | refine .mf ?_ | refine .cl ?_ | refine .cw ?_ | refine .ck ?_ | fail
  all_goals
    refine Fin.ret1 rfl (Weak.eq (congrArg AV.bool ?_))
    simp_all
theorem lInput1 (x m : Mem) : PFn Tryz.prog 202 [x.enc, .rptr m.enc] (.bool (x.name == m.name)) := by
  refine AFn.plain rfl (by simp [AV.closed, AV.closedL, Mem.closed]) (AFn.enter [3] Tryz.func202 rfl rfl rfl rfl rfl (by decide) ?_)
  repeat' first | refine .br ?_ | refine .seq ?_ | refine .rg ?_ | refine .rd ?_ | refine .block ?_ | refine .scope ?_ | refine .skip ?_ | refine .label ?_ | refine .exit ?_ | refine .ret ?_ | refine .ct ?_ | refine .cf ?_ | refine .cy ?_ | refine .cn ?_ | (refine .cond rfl ?_ ?_ <;> intro hc) | refine A.nil_seq ?_ | refine .nl ?_ | refine .dd ?_ | refine .ys ?_ | refine .no ?_ | (refine A.guard rfl ?_ ?_ <;> intro hc) | refine .lb ?_ | refine .ln ?_ | refine .ls ?_ | refine .pv ?_ | refine .ix ?_ | refine .pt ?_ | refine .pf ?_ | refine .bx ?_ | refine .al ?_ | refine .st ?_ | refine .ad ?_ | refine .sb ?_ | refine .mf ?_ | refine .cl ?_ | refine .cw ?_ | refine .ck ?_ | fail
  exact Fin.ret1 rfl (Weak.refl _)
theorem getG_snd (name : Str) : ∀ l : List Mem, (getG name l).2 = l.any fun x => x.name == name
  | [] => rfl
  | m :: l => by
    rw [getG, List.any_cons]
    cases m.name == name with
    | true => rfl
    | false => rw [if_neg (by decide), getG_snd name l]; rfl
theorem any_name (x : Str) (l : List Mem) : (l.any fun y => y.name == x) = decide (x ∈ l.map Mem.name) := by
  rw [Bool.eq_iff_iff, List.any_eq_true, decide_eq_true_eq, List.mem_map]
  constructor
  · rintro ⟨y, hy, e⟩; exact ⟨y, hy, by simpa using e⟩
  · rintro ⟨y, hy, e⟩; exact ⟨y, hy, by simp [e]⟩
theorem needsB_drop {m : List Mem} {ps : List Par} {k : Nat} (h : k < ps.length) : needsB m (ps.drop k) = (((m.any fun x => x.name == ps[k].name) || !reqB ps[k]) && needsB m (ps.drop (k + 1))) := by
  rw [List.drop_eq_getElem_cons h, needsB]
theorem lInput (s : Sch) (ps : List Par) (v : Val) (hs : s.size ≤ 68719476736) (hps : ps.length ≤ 68719476736) (hpz : ∀ p ∈ ps, p.size ≤ 68719476736) (hv : v.size ≤ 68719476736)
    (ih : ∀ x ∈ v.m, ∀ t : Typ, t.name.length ≤ 68719476736 → PFn Tryz.prog 53 [s.enc, t.enc, x.v.enc, .bool false] (.bool (fitsV s x.v t false))) :
    PFn Tryz.prog 171 [s.enc, .slice (ps.map Par.enc) .no, v.enc] (.bool (inputB s ps v)) := by
  have hml := v.m_len
  refine AFn.plain rfl (by simp [AV.closed, AV.closedL, Sch.closed, Par.closedL, Val.closed]) (AFn.enter [6] Tryz.func171 rfl rfl rfl rfl rfl (by decide) ?_)
  unfold inputB
  by_cases c7 : v.kind = 7
  · have e7 : (v.kind != 7) = false := by rw [c7]; rfl
    have e7' : (v.kind == 7) = true := by rw [c7]; rfl
    rw [e7', Bool.true_and]
    repeat' first | refine .br ?_ | refine .seq ?_ | refine .rg ?_ | refine .rd ?_ | refine .block ?_ | refine .scope ?_ | refine .skip ?_ | refine .label ?_ | refine .exit ?_ | refine .ret ?_ | refine .ct ?_ | refine .cf ?_ | refine .cy ?_ | refine .cn ?_ | (refine .cond rfl ?_ ?_ <;> intro hc) | refine A.nil_seq ?_ | refine .nl ?_ | refine .dd ?_ | refine .ys ?_ | refine .no ?_ | (refine A.guard rfl ?_ ?_ <;> intro hc) | refine .lb ?_ | refine .ln ?_ | refine .ls ?_ | refine .pv ?_ | refine .ix ?_ | refine .pt ?_ | refine .pf ?_ | refine .bx ?_ | refine .al ?_ | refine .st ?_ | refine .ad ?_ | refine .sb ?_ | refine .mf ?_ | refine .cl ?_ | refine .cw ?_ | refine .ck ?_ | fail
    refine HCode.forK v.m.length (fun k => [(21, .int .i64 k), (20, .int .i64 v.mv.length), (19, .slice v.mv .no), (1, .slice (ps.map Par.enc) .no), (3, .rptr s.enc), (5, .rptr v.enc)])
      (fun _ => ⟨[], []⟩) (fun k => fitsM s ps v.m [] = fitsM s ps (v.m.drop k) ((v.m.take k).map Mem.name)) ⟨rfl, rfl, rfl, rfl, rfl, rfl, trivial⟩ rfl rfl fun k hk hp => ?_
    by_cases h1 : k < v.m.length
    · have d1 : decide ((k : Int) < (v.mv.length : Int)) = true := by rw [v.mv_len]; simp [h1]
      have x1 := Val.mv_get h1
      have hpar := lParam ps v.m[k].name (by omega)
      have hd := fitsM_drop (s := s) (ps := ps) h1
      have htk : v.mv.take k = (v.m.take k).map Mem.enc := by rw [v.mv_eq, List.map_take]
      have hcf := sContainsFMem (v.m.take k) 202 [.rptr v.m[k].enc] (fun x => x.name == v.m[k].name) (by rw [List.length_take]; omega) (by simp [AV.closed, AV.closedL, Mem.closed]) (fun x _ => lInput1 x _)
      rw [← htk, any_name] at hcf
      have hkv : k ≤ v.mv.length := by rw [v.mv_len]; omega
      cases hpo : parO ps v.m[k].name with
      | none =>
        have e1 : parR ps v.m[k].name = (zeroP, false) := by rw [parR, hpo]
        rw [e1] at hpar
        rw [hpo] at hd
        repeat' first | refine A.allocv (d := 8) rfl rfl rfl rfl rfl ?_ | refine HCode.turn 8 rfl (Turn.freezeP rfl rfl rfl rfl) ?_ | refine .seq ?_ | refine .rg ?_ | refine .rd ?_ | refine .block ?_ | refine .scope ?_ | refine .skip ?_ | refine .label ?_ | refine .exit ?_ | refine .ret ?_ | refine .ct ?_ | refine .cf ?_ | refine .cy ?_ | refine .cn ?_ | (refine .cond rfl ?_ ?_ <;> intro hc) | refine A.nil_seq ?_ | refine .nl ?_ | refine .dd ?_ | refine .ys ?_ | refine .no ?_ | (refine A.guard rfl ?_ ?_ <;> intro hc) | refine .lb ?_ | refine .ln ?_ | refine .ls ?_ | refine .pv ?_ | refine .ix ?_ | refine .pt ?_ | refine .pf ?_ | refine .bx ?_ | refine .al ?_ | refine .st ?_ | refine .ad ?_ | refine .sb ?_ | refine .mf ?_ | refine .cl ?_ | refine .cw ?_ | refine .ck ?_ | refine A.vstore (agg := true) rfl rfl rfl rfl rfl rfl rfl rfl rfl rfl rfl ?_ | fail
        refine Fin.ret1 rfl (Weak.eq (congrArg AV.bool ?_))
        rw [hp, hd]; rfl
      | some p =>
        have e1 : parR ps v.m[k].name = (p, true) := by rw [parR, hpo]
        have hpm : p ∈ ps := List.mem_of_find?_eq_some hpo
        have hpl := p.lens
        have hpz' := hpz p hpm
        have hft := ih v.m[k] (List.getElem_mem h1) p.t (by omega)
        rw [e1] at hpar
        rw [hpo] at hd
        repeat' first | refine A.allocv (d := 8) rfl rfl rfl rfl rfl ?_ | refine HCode.turn 8 rfl (Turn.freezeP rfl rfl rfl rfl) ?_ | refine .seq ?_ | refine .rg ?_ | refine .rd ?_ | refine .block ?_ | refine .scope ?_ | refine .skip ?_ | refine .label ?_ | refine .exit ?_ | refine .ret ?_ | refine .ct ?_ | refine .cf ?_ | refine .cy ?_ | refine .cn ?_ | (refine .cond rfl ?_ ?_ <;> intro hc) | refine A.nil_seq ?_ | refine .nl ?_ | refine .dd ?_ | refine .ys ?_ | refine .no ?_ | (refine A.guard rfl ?_ ?_ <;> intro hc) | refine .lb ?_ | refine .ln ?_ | refine .ls ?_ | refine .pv ?_ | refine .ix ?_ | refine .pt ?_ | refine .pf ?_ | refine .bx ?_ | refine .al ?_ | refine .st ?_ | refine .ad ?_ | refine .sb ?_ | refine .mf ?_ | refine .cl ?_ | refine .cw ?_ | refine .ck ?_ | refine A.vstore (agg := true) rfl rfl rfl rfl rfl rfl rfl rfl rfl rfl rfl ?_ | refine A.slice 0 k rfl rfl rfl rfl rfl rfl rfl rfl (Nat.zero_le _) hkv (.inl rfl) ?_ | fail
        all_goals first | (refine Fin.ret1 rfl (Weak.eq (congrArg AV.bool ?_)); rw [hp, hd]; simp_all; done) | (exact ⟨h1, ⟨rfl, rfl, rfl, rfl, rfl, rfl, trivial⟩, by simp [belowS, AV.low], rfl, rfl, by rw [hp, hd]; simp_all⟩)
    · have d1 : decide ((k : Int) < (v.mv.length : Int)) = false := by rw [v.mv_len]; simp; omega
      have hpe : fitsM s ps v.m [] = true := by rw [hp, List.drop_eq_nil_of_le (by omega), fitsM]
      rw [hpe, Bool.true_and]
      repeat' first | refine .seq ?_ | refine .rg ?_ | refine .rd ?_ | refine .block ?_ | refine .scope ?_ | refine .skip ?_ | refine .label ?_ | refine .exit ?_ | refine .ret ?_ | refine .ct ?_ | refine .cf ?_ | refine .cy ?_ | refine .cn ?_ | (refine .cond rfl ?_ ?_ <;> intro hc) | refine A.nil_seq ?_ | refine .nl ?_ | refine .dd ?_ | refine .ys ?_ | refine .no ?_ | (refine A.guard rfl ?_ ?_ <;> intro hc) | refine .lb ?_ | refine .ln ?_ | refine .ls ?_ | refine .pv ?_ | refine .ix ?_ | refine .pt ?_ | refine .pf ?_ | refine .bx ?_ | refine .al ?_ | refine .st ?_ | refine .ad ?_ | refine .sb ?_ | refine .mf ?_ | refine .cl ?_ | refine .cw ?_ | refine .ck ?_ | fail
      refine HCode.forK ps.length (fun k => [(55, .int .i64 k), (54, .int .i64 ps.length), (53, .slice (ps.map Par.enc) .no), (5, .rptr v.enc)])
        (fun _ => ⟨[], []⟩) (fun k => needsB v.m ps = needsB v.m (ps.drop k)) ⟨rfl, rfl, rfl, rfl, trivial⟩ rfl rfl fun j hj hq => ?_
      by_cases h2 : j < ps.length
      · have d2 : decide ((j : Int) < (ps.length : Int)) = true := by simp [h2]
        have x2 := map_get' (f := Par.enc) h2
        have hg := get ps[j].name v.m (by omega)
        rw [← v.mv_eq, getG_snd] at hg
        have hrq := lRequired ps[j] (hpz _ (List.getElem_mem h2))
        have hd := needsB_drop (m := v.m) h2
        repeat' first | refine .seq ?_ | refine .rg ?_ | refine .rd ?_ | refine .block ?_ | refine .scope ?_ | refine .skip ?_ | refine .label ?_ | refine .exit ?_ | refine .ret ?_ | refine .ct ?_ | refine .cf ?_ | refine .cy ?_ | refine .cn ?_ | (refine .cond rfl ?_ ?_ <;> intro hc) | refine A.nil_seq ?_ | refine .nl ?_ | refine .dd ?_ | refine .ys ?_ | refine .no ?_ | (refine A.guard rfl ?_ ?_ <;> intro hc) | refine .lb ?_ | refine .ln ?_ | refine .ls ?_ | refine .pv ?_ | refine .ix ?_ | refine .pt ?_ | refine .pf ?_ | refine .bx ?_ | refine .al ?_ | refine .st ?_ | refine .ad ?_ | refine .sb ?_ | refine .mf ?_ | refine .cl ?_ | refine .cw ?_ | refine .ck ?_ | fail
        all_goals first | (refine Fin.ret1 rfl (Weak.eq (congrArg AV.bool ?_)); rw [hq, hd]; simp_all; done) | (exact ⟨h2, ⟨rfl, rfl, rfl, rfl, trivial⟩, by simp [belowS, AV.low], rfl, rfl, by rw [hq, hd]; simp_all⟩)
      · have d2 : decide ((j : Int) < (ps.length : Int)) = false := by simp; omega
        repeat' first | refine .seq ?_ | refine .rg ?_ | refine .rd ?_ | refine .block ?_ | refine .scope ?_ | refine .skip ?_ | refine .label ?_ | refine .exit ?_ | refine .ret ?_ | refine .ct ?_ | refine .cf ?_ | refine .cy ?_ | refine .cn ?_ | (refine .cond rfl ?_ ?_ <;> intro hc) | refine A.nil_seq ?_ | refine .nl ?_ | refine .dd ?_ | refine .ys ?_ | refine .no ?_ | (refine A.guard rfl ?_ ?_ <;> intro hc) | refine .lb ?_ | refine .ln ?_ | refine .ls ?_ | refine .pv ?_ | refine .ix ?_ | refine .pt ?_ | refine .pf ?_ | refine .bx ?_ | refine .al ?_ | refine .st ?_ | refine .ad ?_ | refine .sb ?_ | refine .mf ?_ | refine .cl ?_ | refine .cw ?_ | refine .ck ?_ | fail
        refine Fin.ret1 rfl (Weak.eq (congrArg AV.bool ?_))
        rw [hq, List.drop_eq_nil_of_le (by omega), needsB]
  · have e7 : (v.kind != 7) = true := by simp [c7]
    have e7' : (v.kind == 7) = false := by simp [c7]
    rw [e7', Bool.false_and]
    repeat' first | refine .br ?_ | refine .seq ?_ | refine .rg ?_ | refine .rd ?_ | refine .block ?_ | refine .scope ?_ | refine .skip ?_ | refine .label ?_ | refine .exit ?_ | refine .ret ?_ | refine .ct ?_ | refine .cf ?_ | refine .cy ?_ | refine .cn ?_ | (refine .cond rfl ?_ ?_ <;> intro hc) | refine A.nil_seq ?_ | refine .nl ?_ | refine .dd ?_ | refine .ys ?_ | refine .no ?_ | (refine A.guard rfl ?_ ?_ <;> intro hc) | refine .lb ?_ | refine .ln ?_ | refine .ls ?_ | refine .pv ?_ | refine .ix ?_ | refine .pt ?_ | refine .pf ?_ | refine .bx ?_ | refine .al ?_ | refine .st ?_ | refine .ad ?_ | refine .sb ?_ | refine .mf ?_ | refine .cl ?_ | refine .cw ?_ | refine .ck ?_ | fail
    exact Fin.ret1 rfl (Weak.refl _)
def strangeP (wr : Bool) (env m : List Mem) (ps : List Par) (x : Mem) : Bool := (parO ps x.name).isNone && (match envO m x.name with | some y => thereB wr env y | none => false)
theorem strange_eq (s : Sch) (wr : Bool) (env : List Mem) (dfl : Par → VE) (m : List Mem) (ps : List Par) : strange wr env (mkM s wr env dfl m) ps = m.any (strangeP wr env m ps) := by
  unfold strange strangeP
  have key : ∀ l : List Mem, (mkM s wr env dfl l).any (fun f => (parO ps f.1).isNone && (match firstF (mkM s wr env dfl m) f.1 with | some g => thereB wr env g.2.1 | none => false)) = l.any (fun x => (parO ps x.name).isNone && (match envO m x.name with | some y => thereB wr env y | none => false)) := by
    intro l
    induction l with
    | nil => rw [mkM]; rfl
    | cons x l ih =>
      obtain ⟨n, v⟩ := x
      rw [mkM, List.any_cons, List.any_cons, ih]
      congr 1
      show ((parO ps n).isNone && _) = ((parO ps n).isNone && _)
      congr 1
      show (match firstF (mkM s wr env dfl m) n with | some g => thereB wr env g.2.1 | none => false) = (match envO m n with | some y => thereB wr env y | none => false)
      rw [firstF_mkM]
      unfold envO
      cases m.find? (fun x => x.name == n) <;> rfl
  exact key m
theorem envO_mem {m : List Mem} {x : Mem} (h : x ∈ m) : ∃ y, envO m x.name = some y := by
  unfold envO
  cases e : m.find? (fun z => z.name == x.name) with
  | none => have := List.find?_eq_none.1 e x h; simp at this
  | some z => exact ⟨z.v, rfl⟩
theorem weak_inputC {l : List Mem} {t1 t2 : Tk} : Weak (.agg [.int .i64 7, .int .i64 0, .str [], .slice [] t1, .slice (l.map Mem.enc) t2]) (Val.mk 7 0 [] [] l).enc := by
  unfold Val.enc
  rw [Val.mv_eq, lv_mk]
  exact Weak.agg (WeakL.cons (Weak.refl _) (WeakL.cons (Weak.refl _) (WeakL.cons (Weak.refl _) (WeakL.cons (Weak.no (WeakL.refl _)) (WeakL.cons (Weak.no (WeakL.refl _)) (WeakL.refl _))))))
theorem cInput (s : Sch) (wr within : Bool) (env : List Mem) (d : Dfn) (v : Val) (r : List Mem × Int) (he : env.length ≤ 68719476736) (hv : v.size ≤ 68719476736) (hps : d.params.length ≤ 68719476736)
    (hM : PFn Tryz.prog 209 [mkE s wr true env, .slice (d.params.map Par.enc) .no, .slice v.mv .no] (.tup [.slice (r.1.map Mem.enc) .no, .int .i64 r.2])) :
    PFn Tryz.prog 178 [mkE s wr within env, d.enc, v.enc] (VE.enc (if v.kind = 7 then (if v.m.any (strangeP wr env v.m d.params) = true then (val0, 6) else if r.2 ≠ 0 then (val0, r.2) else (.mk 7 0 [] [] r.1, 0)) else (val0, 7))) := by
  have hml := v.m_len
  refine AFn.plain (VE.closed _) (by simp [AV.closed, AV.closedL, mkE_closed, Dfn.closed, Val.closed]) (AFn.enterR [.cell 6 48, .tmp 7] Tryz.func178 rfl rfl rfl rfl rfl ?_)
  by_cases k7 : v.kind = 7
  · have q7 : (v.kind != 7) = false := by simp [k7]
    rw [if_pos k7]
    repeat' first | refine AOps.br (d := 4) ?_ | refine AOps.br (d := 5) ?_ | refine .seq ?_ | refine .rg ?_ | refine .rd ?_ | refine .block ?_ | refine .scope ?_ | refine .skip ?_ | refine .label ?_ | refine .exit ?_ | refine .ret ?_ | refine .ct ?_ | refine .cf ?_ | refine .cy ?_ | refine .cn ?_ | (refine .cond rfl ?_ ?_ <;> intro hc) | refine A.nil_seq ?_ | refine .nl ?_ | refine .dd ?_ | refine .ys ?_ | refine .no ?_ | (refine A.guard rfl ?_ ?_ <;> intro hc) | refine .lb ?_ | refine .ln ?_ | refine .ls ?_ | refine .pv ?_ | refine .ix ?_ | refine .pt ?_ | refine .pf ?_ | refine .bx ?_ | refine .al ?_ | refine .st ?_ | refine .ad ?_ | refine .sb ?_ | refine .mf ?_ | refine .cl ?_ | refine .cw ?_ | refine .ck ?_ | fail
    refine HCode.forK v.m.length (fun k => [(23, .int .i64 k), (22, .int .i64 v.mv.length), (21, .slice v.mv .no), (3, .ptr 0 0), (4, .rptr d.enc), (5, .rptr v.enc), (6, .ptr 1 0)])
      (fun _ => ⟨[.cells [.slice (s.defs.map Dfn.enc) .no, .str s.query, .str s.mutation, .bool wr, .bool within, .slice (env.map Mem.enc) .no], .cells zeroV], []⟩) (fun k => (v.m.take k).any (strangeP wr env v.m d.params) = false)
      ⟨rfl, rfl, rfl, rfl, rfl, rfl, rfl, trivial⟩ rfl (by rw [List.take_zero]; rfl) fun k hk hj => ?_
    by_cases h1 : k < v.m.length
    · have d1 : decide ((k : Int) < (v.mv.length : Int)) = true := by rw [v.mv_len]; simp [h1]
      have x1 := Val.mv_get h1
      have hmem := List.getElem_mem h1
      have hpar := lParam d.params v.m[k].name (by omega)
      have hg := get v.m[k].name v.m (by omega)
      rw [envO_getG, ← v.mv_eq] at hg
      obtain ⟨y, hy⟩ := envO_mem hmem
      rw [hy] at hg
      have hth := cThere s wr within env y (by omega)
      have hst : strangeP wr env v.m d.params v.m[k] = ((parO d.params v.m[k].name).isNone && thereB wr env y) := by unfold strangeP; rw [hy]
      have htk : (v.m.take (k + 1)).any (strangeP wr env v.m d.params) = strangeP wr env v.m d.params v.m[k] := by
        rw [List.take_succ_eq_append_getElem h1, List.any_append, hj]; simp
      cases hpo : parO d.params v.m[k].name with
      | none =>
        have e1 : parR d.params v.m[k].name = (zeroP, false) := by rw [parR, hpo]
        rw [e1] at hpar
        rw [hpo] at hst
        cases c : thereB wr env y with
        | true =>
          rw [c] at hth hst
          have hany : v.m.any (strangeP wr env v.m d.params) = true := List.any_eq_true.2 ⟨_, hmem, hst⟩
          rw [if_pos hany]
          repeat' first | refine .seq ?_ | refine .rg ?_ | refine .rd ?_ | refine .block ?_ | refine .scope ?_ | refine .skip ?_ | refine .label ?_ | refine .exit ?_ | refine .ret ?_ | refine .ct ?_ | refine .cf ?_ | refine .cy ?_ | refine .cn ?_ | (refine .cond rfl ?_ ?_ <;> intro hc) | refine A.nil_seq ?_ | refine .nl ?_ | refine .dd ?_ | refine .ys ?_ | refine .no ?_ | (refine A.guard rfl ?_ ?_ <;> intro hc) | refine .lb ?_ | refine .ln ?_ | refine .ls ?_ | refine .pv ?_ | refine .ix ?_ | refine .pt ?_ | refine .pf ?_ | refine .bx ?_ | refine .al ?_ | refine .st ?_ | refine .ad ?_ | refine .sb ?_ | refine .mf ?_ | refine .cl ?_ | refine .cw ?_ | refine .ck ?_ | fail
          exact FinR.ret1 rfl weak_ve0
        | false =>
          rw [c] at hth hst
          repeat' first | refine .seq ?_ | refine .rg ?_ | refine .rd ?_ | refine .block ?_ | refine .scope ?_ | refine .skip ?_ | refine .label ?_ | refine .exit ?_ | refine .ret ?_ | refine .ct ?_ | refine .cf ?_ | refine .cy ?_ | refine .cn ?_ | (refine .cond rfl ?_ ?_ <;> intro hc) | refine A.nil_seq ?_ | refine .nl ?_ | refine .dd ?_ | refine .ys ?_ | refine .no ?_ | (refine A.guard rfl ?_ ?_ <;> intro hc) | refine .lb ?_ | refine .ln ?_ | refine .ls ?_ | refine .pv ?_ | refine .ix ?_ | refine .pt ?_ | refine .pf ?_ | refine .bx ?_ | refine .al ?_ | refine .st ?_ | refine .ad ?_ | refine .sb ?_ | refine .mf ?_ | refine .cl ?_ | refine .cw ?_ | refine .ck ?_ | fail
          exact ⟨h1, ⟨rfl, rfl, rfl, rfl, rfl, rfl, rfl, trivial⟩, by simp [belowS, AV.low, AV.low_of_closed, mkE_closed], by simp [belowB, belowT, Ob.low, Tok.low, AV.lowL, AV.low, zeroV], rfl, htk.trans hst⟩
      | some p =>
        have e1 : parR d.params v.m[k].name = (p, true) := by rw [parR, hpo]
        rw [e1] at hpar
        rw [hpo] at hst
        repeat' first | refine .seq ?_ | refine .rg ?_ | refine .rd ?_ | refine .block ?_ | refine .scope ?_ | refine .skip ?_ | refine .label ?_ | refine .exit ?_ | refine .ret ?_ | refine .ct ?_ | refine .cf ?_ | refine .cy ?_ | refine .cn ?_ | (refine .cond rfl ?_ ?_ <;> intro hc) | refine A.nil_seq ?_ | refine .nl ?_ | refine .dd ?_ | refine .ys ?_ | refine .no ?_ | (refine A.guard rfl ?_ ?_ <;> intro hc) | refine .lb ?_ | refine .ln ?_ | refine .ls ?_ | refine .pv ?_ | refine .ix ?_ | refine .pt ?_ | refine .pf ?_ | refine .bx ?_ | refine .al ?_ | refine .st ?_ | refine .ad ?_ | refine .sb ?_ | refine .mf ?_ | refine .cl ?_ | refine .cw ?_ | refine .ck ?_ | fail
        exact ⟨h1, ⟨rfl, rfl, rfl, rfl, rfl, rfl, rfl, trivial⟩, by simp [belowS, AV.low, AV.low_of_closed, mkE_closed], by simp [belowB, belowT, Ob.low, Tok.low, AV.lowL, AV.low, zeroV], rfl, htk.trans hst⟩
    · have d1 : decide ((k : Int) < (v.mv.length : Int)) = false := by rw [v.mv_len]; simp; omega
      obtain rfl : k = v.m.length := by omega
      rw [List.take_length] at hj
      rw [if_neg (by rw [hj]; decide)]
      obtain ⟨rl, re⟩ := r
      simp only at hM ⊢
      by_cases er : re = 0
      · subst er
        rw [if_neg (by simp)]
        repeat' first | refine .seq ?_ | refine .rg ?_ | refine .rd ?_ | refine .block ?_ | refine .scope ?_ | refine .skip ?_ | refine .label ?_ | refine .exit ?_ | refine .ret ?_ | refine .ct ?_ | refine .cf ?_ | refine .cy ?_ | refine .cn ?_ | (refine .cond rfl ?_ ?_ <;> intro hc) | refine A.nil_seq ?_ | refine .nl ?_ | refine .dd ?_ | refine .ys ?_ | refine .no ?_ | (refine A.guard rfl ?_ ?_ <;> intro hc) | refine .lb ?_ | refine .ln ?_ | refine .ls ?_ | refine .pv ?_ | refine .ix ?_ | refine .pt ?_ | refine .pf ?_ | refine .bx ?_ | refine .al ?_ | refine .st ?_ | refine .ad ?_ | refine .sb ?_ | refine .mf ?_ | refine .cl ?_ | refine .cw ?_ | refine .ck ?_ | fail
        exact FinR.ret1 rfl (Weak.tup (WeakL.cons weak_inputC (WeakL.refl _)))
      · have er' : (re != 0) = true := by simpa using er
        rw [if_pos er]
        repeat' first | refine .seq ?_ | refine .rg ?_ | refine .rd ?_ | refine .block ?_ | refine .scope ?_ | refine .skip ?_ | refine .label ?_ | refine .exit ?_ | refine .ret ?_ | refine .ct ?_ | refine .cf ?_ | refine .cy ?_ | refine .cn ?_ | (refine .cond rfl ?_ ?_ <;> intro hc) | refine A.nil_seq ?_ | refine .nl ?_ | refine .dd ?_ | refine .ys ?_ | refine .no ?_ | (refine A.guard rfl ?_ ?_ <;> intro hc) | refine .lb ?_ | refine .ln ?_ | refine .ls ?_ | refine .pv ?_ | refine .ix ?_ | refine .pt ?_ | refine .pf ?_ | refine .bx ?_ | refine .al ?_ | refine .st ?_ | refine .ad ?_ | refine .sb ?_ | refine .mf ?_ | refine .cl ?_ | refine .cw ?_ | refine .ck ?_ | fail
        exact FinR.ret1 rfl weak_ve0
  · have q7 : (v.kind != 7) = true := by simp [k7]
    rw [if_neg k7]
    repeat' first | refine .br ?_ | refine .seq ?_ | refine .rg ?_ | refine .rd ?_ | refine .block ?_ | refine .scope ?_ | refine .skip ?_ | refine .label ?_ | refine .exit ?_ | refine .ret ?_ | refine .ct ?_ | refine .cf ?_ | refine .cy ?_ | refine .cn ?_ | (refine .cond rfl ?_ ?_ <;> intro hc) | refine A.nil_seq ?_ | refine .nl ?_ | refine .dd ?_ | refine .ys ?_ | refine .no ?_ | (refine A.guard rfl ?_ ?_ <;> intro hc) | refine .lb ?_ | refine .ln ?_ | refine .ls ?_ | refine .pv ?_ | refine .ix ?_ | refine .pt ?_ | refine .pf ?_ | refine .bx ?_ | refine .al ?_ | refine .st ?_ | refine .ad ?_ | refine .sb ?_ | refine .mf ?_ | refine .cl ?_ | refine .cw ?_ | refine .ck ?_ | fail
    exact FinR.ret1 rfl weak_ve0
end Go.Proofs.YtegakkonlhmeaaaGreatDoor
