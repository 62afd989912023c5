/-
  The store, where what is handed in and what is told is written: results in fresh memory that may be written; methods on nil; the page's words on what is told, alike.
-/
import Derived.Test.YtajddgpkflbnaaaMLawRep
set_option linter.unusedVariables false
set_option linter.unusedSimpArgs false
namespace Go.Av
open Go
section rules
variable {P : Program} {all : Array Oper} {draw : Bool} {K : AX → Slots → St → Prop} {rest : List Oper} {acc : List Tag} {s : Slots} {σ : St}
variable {d : Tmp} {ty : TypeId} {pos : String} {af : Array Edge}

/-- A call of plain data that hands back a slice in fresh memory that may be written. -/
theorem A.callT {f : FuncId} {args : Array Operand} {tys : Array TypeId} {vals vals0 xs : List AV} {z n k : Nat} {T' : List Tok} (ha : evsK s args.toList some = some vals)
    (hp : AFn P f vals0 ⟨[], []⟩ (fun e σ1 => e = .ret (.vec 0 z n 0 n) ∧ σ1 = ⟨[], [.vec xs]⟩)) (hc : AV.closedL vals0 = true) (hxs : AV.closedL xs = true) (hw : WeakL vals vals0)
    (hk : smallLen σ.T = some k) (hT' : snocK σ.T (.vec xs) some = some T')
    (kk : AOps P all draw K rest (.all :: acc) ((d, .vec k z n 0 n) :: s) ⟨σ.B, T'⟩) : AOps P all draw K (⟨some d, .call ⟨.value (.func f), args, tys⟩, ty, pos, af, none⟩ :: rest) acc s σ := by
  have hk' : σ.T.length = k := smallLen_spec hk
  have hTe := snocK_spec _ _ _ _ hT'
  refine A.callR (nB := σ.B.length) (nT := σ.T.length) (B0 := []) (T0 := []) (v0 := .vec 0 z n 0 n) [] [] ha hp rfl rfl ⟨List.nodup_nil, by simp⟩ ⟨List.nodup_nil, by simp⟩ rfl rfl (fun k i ob h => by simp at h) (fun k i t h => by simp at h) rfl rfl
    (AV.lowL_of_closed _ _ _ hc) (by rw [AV.renL_closed _ _ _ hc]; exact hw) (v := .vec k z n 0 n) ?_ (B' := σ.B) (T' := T') ?_ ?_ kk
  · rw [AV.ren]; simp [emb, hk']
  · rw [merge_nil]; simp
  · rw [merge_nil, ← Option.some.inj hTe]
    simp only [List.map_cons, List.map_nil, Tok.ren, AV.renL_closed _ _ _ hxs]
/-- A method of such a record, that hands back a slice in fresh memory that may be written. -/
theorem A.callSV {f : FuncId} {args : Array Operand} {tys : Array TypeId} {vals vals0 : List AV} {x : AV} {es xs : List AV} {z n k z' m q : Nat} {T' : List Tok} (i : Nat) (ha : evsK s args.toList some = some (.ptr i 0 :: vals))
    (hp : AFn P f (.ptr 0 0 :: vals0) ⟨[.cells [x, .slice es (.own 0 z)]], [.len n]⟩ (fun e σ1 => e = .ret (.vec 1 z' m 0 m) ∧ σ1 = ⟨[.cells [x, .slice es (.own 0 z)]], [.len n, .vec xs]⟩))
    (hi : σ.B[i]? = some (.cells [x, .slice es (.own k z)])) (hk : σ.T[k]? = some (.len n)) (hc : AV.closedL vals0 = true) (hx : x.closed = true) (hes : AV.closedL es = true) (hxs : AV.closedL xs = true) (hw : WeakL vals vals0)
    (hq : smallLen σ.T = some q) (hT' : snocK σ.T (.vec xs) some = some T')
    (kk : AOps P all draw K rest (.all :: acc) ((d, .vec q z' m 0 m) :: s) ⟨σ.B, T'⟩) : AOps P all draw K (⟨some d, .call ⟨.value (.func f), args, tys⟩, ty, pos, af, none⟩ :: rest) acc s σ := by
  have hil : i < σ.B.length := (List.getElem?_eq_some_iff.1 hi).1
  have hkl : k < σ.T.length := (List.getElem?_eq_some_iff.1 hk).1
  have hq' : σ.T.length = q := smallLen_spec hq
  have hTe := snocK_spec _ _ _ _ hT'
  have ei : emb σ.B.length [i] 0 = i := by simp [emb]
  have ek : emb σ.T.length [k] 0 = k := by simp [emb]
  have eq1 : emb σ.T.length [k] 1 = q := by simp [emb, hq']
  have hob : ∀ y ys, AV.closed y = true → AV.closedL ys = true → Ob.ren (emb σ.B.length [i]) (emb σ.T.length [k]) (.cells [y, .slice ys (.own 0 z)]) = .cells [y, .slice ys (.own k z)] := fun y ys h1 h2 => by
    rw [Ob.ren, AV.renL, AV.renL, AV.renL, AV.ren_closed _ _ _ h1, AV.ren, AV.renL_closed _ _ _ h2, Tk.ren, ek]
  refine A.callR (nB := σ.B.length) (nT := σ.T.length) (v0 := .vec 1 z' m 0 m) [i] [k] ha hp rfl rfl ⟨by simp, by simpa using hil⟩ ⟨by simp, by simpa using hkl⟩ rfl rfl (fun j i' ob h ho => ?_) (fun j i' t h ht => ?_) ?_ rfl ?_ ?_ (v := .vec q z' m 0 m) ?_ (B' := σ.B) (T' := T') ?_ ?_ kk
  · cases j with
    | zero =>
      simp at h ho
      subst h; subst ho
      rw [hob _ _ hx hes]
      exact hi
    | succ j => simp at h
  · cases j with
    | zero =>
      simp at h ht
      subst h; subst ht
      exact hk
    | succ j => simp at h
  · simp only [List.length_cons, List.length_nil, belowB, Ob.low, AV.lowL, AV.low, AV.low_of_closed _ _ _ hx, AV.lowL_of_closed _ _ _ hes, Bool.and_true, Bool.true_and]
    rfl
  · simp only [List.length_cons, List.length_nil, AV.lowL, AV.low, AV.lowL_of_closed _ _ _ hc, Bool.and_true]
    rfl
  · rw [AV.renL, AV.ren, ei, AV.renL_closed _ _ _ hc]
    exact WeakL.cons (Weak.refl _) hw
  · rw [AV.ren, eq1]
  · simp only [merge, upd, List.map_cons, List.map_nil, hob _ _ hx hes, List.length_cons, List.length_nil, List.drop_succ_cons, List.drop_zero, List.append_nil]
    exact set_self hi
  · rw [← Option.some.inj hTe]
    simp only [merge, upd, List.map_cons, List.map_nil, Tok.ren, AV.renL_closed _ _ _ hxs, List.length_cons, List.length_nil, List.drop_succ_cons, List.drop_zero, List.append_nil]
    rw [set_self hk]
/-- Such a record is made of a slice that may be written. -/
theorem A.callOV {f : FuncId} {args : Array Operand} {tys : Array TypeId} {vals vals0 : List AV} {x : AV} {xs : List AV} {z n : Nat} (hσ : σ = ⟨[], [.vec xs]⟩) (ha : evsK s args.toList some = some vals)
    (hp : AFn P f vals0 ⟨[], [.vec xs]⟩ (fun e σ1 => e = .ret (.ptr 0 0) ∧ σ1 = ⟨[.cells [x, .slice [] (.own 1 z)]], [.vec xs, .len n]⟩)) (hx : x.closed = true) (hxs : AV.closedL xs = true) (hlo : AV.lowL 0 1 vals0 = true) (hw : WeakL vals (AV.renL (emb 0 []) (emb 1 [0]) vals0))
    (kk : AOps P all draw K rest (.all :: acc) ((d, .ptr 0 0) :: s) ⟨[.cells [x, .slice [] (.own 1 z)]], [.vec xs, .len n]⟩) : AOps P all draw K (⟨some d, .call ⟨.value (.func f), args, tys⟩, ty, pos, af, none⟩ :: rest) acc s σ := by
  subst hσ
  refine A.callR (nB := 0) (nT := 1) (B0 := []) (T0 := [.vec xs]) (v0 := .ptr 0 0) [] [0] ha hp rfl rfl ⟨List.nodup_nil, by simp⟩ ⟨by simp, by simp⟩ rfl rfl (fun k i ob h => by simp at h) (fun j i t h ht => ?_) rfl ?_ hlo hw
    (v := .ptr 0 0) ?_ (B' := [.cells [x, .slice [] (.own 1 z)]]) (T' := [.vec xs, .len n]) ?_ ?_ kk
  · cases j with
    | zero =>
      simp at h ht
      subst h; subst ht
      rw [Tok.ren, AV.renL_closed _ _ _ hxs]; rfl
    | succ j => simp at h
  · simp only [List.length_cons, List.length_nil, belowT, Tok.low, Bool.and_true]; exact AV.lowL_of_closed _ _ _ hxs
  · rw [AV.ren]; rfl
  · rw [merge_nil]
    simp only [List.map_cons, List.map_nil, Ob.ren, AV.renL, AV.ren_closed _ _ _ hx, AV.ren, Tk.ren]
    rfl
  · simp only [merge, upd, List.map_cons, List.map_nil, Tok.ren, AV.renL_closed _ _ _ hxs]
    rfl
end rules
end Go.Av
namespace Go.Proofs.Ytajddgpkflbnaaa
open Go Go.Av
set_option maxRecDepth 100000
set_option maxHeartbeats 16000000
attribute [local irreducible] HCode AOps PFn AFn Av.Step TStep

theorem keepV (l : List Tbl) (hl : l.length ≤ 1048576) (hr : ∀ t ∈ l, t.rows.length ≤ 1048576) (hs : ∀ t ∈ l, ∀ r ∈ t.rows, sumSize Mem.size r.cols ≤ 1048576) :
    AFn Try.prog 14 [Tbls.enc l] ⟨[], []⟩ (fun e σ => e = .ret (.vec 0 2 l.length 0 l.length) ∧ σ = ⟨[], [.vec (l.map Tbl.enc)]⟩) := by
  refine AFn.meth (nB := 0) (mT := 1) (AFn.enter [2] Try.func14 rfl rfl rfl rfl rfl (by decide) ?_) (by simp) (by simp) rfl rfl (by simp [belowT, Tok.low, Tbl.lowL])
  repeat' first
    | refine HCode.seq ?_ | refine HCode.region rfl ?_ | refine HCode.region_draw Lay.mix rfl ?_ | refine HCode.block ?_ | refine HCode.scope ?_ | refine HCode.skip ?_ | refine HCode.label ?_ | refine HCode.exit ?_ | refine HCode.ret ?_
    | refine HCode.cond_true rfl ?_ | refine HCode.cond_false rfl ?_ | refine HCode.cond_yes rfl (by assumption) ?_ | refine HCode.cond_no rfl (by assumption) ?_ | (refine HCode.cond rfl ?_ ?_ <;> intro hc)
    | refine A.nil_seq ?_ | refine A.nil (fun _ => rfl) ?_ | refine A.dead rfl ?_ | refine A.yes rfl rfl ?_ | refine A.no rfl rfl ?_ | refine A.yes rfl (by assumption) ?_ | refine A.no rfl (by assumption) ?_ | (refine A.guard rfl ?_ ?_ <;> intro hc)
    | refine A.move rfl ?_ | refine A.assign rfl ?_ | refine A.load_b rfl rfl rfl rfl ?_ | refine A.load_r rfl rfl rfl ?_ | refine A.field_b rfl rfl rfl rfl rfl rfl ?_ | refine A.field_r rfl rfl rfl rfl rfl rfl ?_ | refine A.field rfl rfl rfl rfl rfl ?_
    | refine A.index_r rfl rfl rfl rfl rfl rfl (by assumption) rfl ?_ | refine A.len rfl rfl rfl (by first | rw [List.length_map] | rfl) ?_ | refine A.lens rfl rfl rfl rfl ?_
    | refine A.pick_true rfl rfl rfl ?_ | refine A.pick_false rfl rfl rfl ?_ | refine A.pick_true rfl (by assumption) rfl ?_ | refine A.pick_false rfl (by assumption) rfl ?_
    | refine A.box rfl rfl rfl ?_ | refine A.alloc rfl rfl rfl ?_ | refine A.store rfl rfl rfl rfl rfl ?_ | refine A.build rfl rfl rfl rfl ?_ | refine A.buildSlice rfl rfl rfl rfl rfl rfl rfl ?_
    | refine A.eqi rfl rfl ?_ | refine A.nei rfl rfl ?_ | refine A.lss rfl rfl ?_ | refine A.leq rfl rfl ?_ | refine A.gtr rfl rfl ?_ | refine A.geq rfl rfl ?_ | refine A.eqb rfl rfl rfl rfl ?_ | refine A.neb rfl rfl rfl rfl ?_ | refine A.eqs rfl rfl ?_ | refine A.nes rfl rfl ?_ | refine A.lts rfl rfl ?_ | refine A.gts rfl rfl ?_
    | refine A.not rfl ?_ | refine A.extract rfl rfl ?_ | refine A.add64 rfl rfl rfl (by omega) ?_ | refine A.sub64 rfl rfl rfl (by omega) ?_
  change HCode _ _ _ _ _ _ _
  refine HCode.turn 3 rfl (Turn.vadopt (z := 2) rfl rfl rfl) ?_
  refine HCode.loop (fun n s σ => ∃ k : Nat, n = l.length - k ∧ k ≤ l.length ∧ σ = ⟨[], [.vec ((l.take k).map Tbl.enc)]⟩ ∧ s = [(4, .int .i64 k), (3, .vec 0 2 k 0 k), (0, Tbls.enc l)])
    (s0 := [(4, .int .i64 (0 : Nat)), (3, .vec 0 2 0 0 0), (0, Tbls.enc l)]) ⟨rfl, rfl, rfl, trivial⟩ ⟨0, rfl, Nat.zero_le _, rfl, rfl⟩ ?_
  rintro n s σ ⟨k, rfl, hk, rfl, rfl⟩
  have htl : ((l.take k).map Tbl.enc).length = k := by simp; omega
  by_cases h1 : k < l.length
  · have d1 : decide ((k : Int) < (l.length : Int)) = true := by simp [h1]
    have x1 := map_get' (f := Tbl.enc) h1
    have hrl := hr _ (List.getElem_mem h1)
    repeat' first
      | refine HCode.seq ?_ | refine HCode.region rfl ?_ | refine HCode.region_draw Lay.mix rfl ?_ | refine HCode.block ?_ | refine HCode.scope ?_ | refine HCode.skip ?_ | refine HCode.label ?_ | refine HCode.exit ?_ | refine HCode.ret ?_
      | refine HCode.cond_true rfl ?_ | refine HCode.cond_false rfl ?_ | refine HCode.cond_yes rfl (by assumption) ?_ | refine HCode.cond_no rfl (by assumption) ?_ | (refine HCode.cond rfl ?_ ?_ <;> intro hc)
      | refine A.nil_seq ?_ | refine A.nil (fun _ => rfl) ?_ | refine A.dead rfl ?_ | refine A.yes rfl rfl ?_ | refine A.no rfl rfl ?_ | refine A.yes rfl (by assumption) ?_ | refine A.no rfl (by assumption) ?_ | (refine A.guard rfl ?_ ?_ <;> intro hc)
      | refine A.move rfl ?_ | refine A.assign rfl ?_ | refine A.load_b rfl rfl rfl rfl ?_ | refine A.load_r rfl rfl rfl ?_ | refine A.field_b rfl rfl rfl rfl rfl rfl ?_ | refine A.field_r rfl rfl rfl rfl rfl rfl ?_ | refine A.field rfl rfl rfl rfl rfl ?_
      | refine A.index_r rfl rfl rfl rfl rfl rfl (by assumption) rfl ?_ | refine A.len rfl rfl rfl (by first | rw [List.length_map] | rfl) ?_ | refine A.lens rfl rfl rfl rfl ?_
      | refine A.pick_true rfl rfl rfl ?_ | refine A.pick_false rfl rfl rfl ?_ | refine A.pick_true rfl (by assumption) rfl ?_ | refine A.pick_false rfl (by assumption) rfl ?_
      | refine A.box rfl rfl rfl ?_ | refine A.alloc rfl rfl rfl ?_ | refine A.store rfl rfl rfl rfl rfl ?_ | refine A.build rfl rfl rfl rfl ?_ | refine A.buildSlice rfl rfl rfl rfl rfl rfl rfl ?_
      | refine A.eqi rfl rfl ?_ | refine A.nei rfl rfl ?_ | refine A.lss rfl rfl ?_ | refine A.leq rfl rfl ?_ | refine A.gtr rfl rfl ?_ | refine A.geq rfl rfl ?_ | refine A.eqb rfl rfl rfl rfl ?_ | refine A.neb rfl rfl rfl rfl ?_ | refine A.eqs rfl rfl ?_ | refine A.nes rfl rfl ?_ | refine A.lts rfl rfl ?_ | refine A.gts rfl rfl ?_
      | refine A.not rfl ?_ | refine A.extract rfl rfl ?_ | refine A.add64 rfl rfl rfl (by omega) ?_ | refine A.sub64 rfl rfl rfl (by omega) ?_
    change HCode _ _ _ _ _ _ _
    refine HCode.adoptB 0 1 true 4 rfl rfl rfl rfl rfl rfl rfl rfl ?_
    refine HCode.loop (fun n s σ => ∃ j : Nat, n = l[k].rows.length - j ∧ j ≤ l[k].rows.length ∧ σ = ⟨[.cells [.str l[k].name, .slice ((l[k].rows.take j).map Row.enc) (.own 1 4)]], [.vec ((l.take k).map Tbl.enc), .len j]⟩ ∧ s = [(6, .int .i64 j), (5, .ptr 0 0), (4, .int .i64 k), (3, .vec 0 2 k 0 k), (0, Tbls.enc l)])
      (s0 := [(6, .int .i64 (0 : Nat)), (5, .ptr 0 0), (4, .int .i64 k), (3, .vec 0 2 k 0 k), (0, Tbls.enc l)]) ⟨rfl, rfl, rfl, rfl, rfl, trivial⟩ ⟨0, rfl, Nat.zero_le _, rfl, rfl⟩ ?_
    rintro n s σ ⟨j, rfl, hj, rfl, rfl⟩
    have hjl : ((l[k].rows.take j).map Row.enc).length = j := by simp; omega
    by_cases h2 : j < l[k].rows.length
    · have d2 : decide ((j : Int) < (l[k].rows.length : Int)) = true := by simp [h2]
      have x2 := map_get' (f := Row.enc) h2
      have hm := membersK l[k].rows[j].cols (hs _ (List.getElem_mem h1) _ (List.getElem_mem h2))
      repeat' first
        | refine HCode.seq ?_ | refine HCode.region rfl ?_ | refine HCode.region_draw Lay.mix rfl ?_ | refine HCode.block ?_ | refine HCode.scope ?_ | refine HCode.skip ?_ | refine HCode.label ?_ | refine HCode.exit ?_ | refine HCode.ret ?_
        | refine HCode.cond_true rfl ?_ | refine HCode.cond_false rfl ?_ | refine HCode.cond_yes rfl (by assumption) ?_ | refine HCode.cond_no rfl (by assumption) ?_ | (refine HCode.cond rfl ?_ ?_ <;> intro hc)
        | refine A.nil_seq ?_ | refine A.nil (fun _ => rfl) ?_ | refine A.dead rfl ?_ | refine A.yes rfl rfl ?_ | refine A.no rfl rfl ?_ | refine A.yes rfl (by assumption) ?_ | refine A.no rfl (by assumption) ?_ | (refine A.guard rfl ?_ ?_ <;> intro hc)
        | refine A.move rfl ?_ | refine A.assign rfl ?_ | refine A.load_b rfl rfl rfl rfl ?_ | refine A.load_r rfl rfl rfl ?_ | refine A.field_b rfl rfl rfl rfl rfl rfl ?_ | refine A.field_r rfl rfl rfl rfl rfl rfl ?_ | refine A.field rfl rfl rfl rfl rfl ?_
        | refine A.index_r rfl rfl rfl rfl rfl rfl (by assumption) rfl ?_ | refine A.len rfl rfl rfl (by first | rw [List.length_map] | rfl) ?_ | refine A.lens rfl rfl rfl rfl ?_
        | refine A.pick_true rfl rfl rfl ?_ | refine A.pick_false rfl rfl rfl ?_ | refine A.pick_true rfl (by assumption) rfl ?_ | refine A.pick_false rfl (by assumption) rfl ?_
        | refine A.box rfl rfl rfl ?_ | refine A.alloc rfl rfl rfl ?_ | refine A.store rfl rfl rfl rfl rfl ?_ | refine A.build rfl rfl rfl rfl ?_ | refine A.buildSlice rfl rfl rfl rfl rfl rfl rfl ?_
        | refine A.eqi rfl rfl ?_ | refine A.nei rfl rfl ?_ | refine A.lss rfl rfl ?_ | refine A.leq rfl rfl ?_ | refine A.gtr rfl rfl ?_ | refine A.geq rfl rfl ?_ | refine A.eqb rfl rfl rfl rfl ?_ | refine A.neb rfl rfl rfl rfl ?_ | refine A.eqs rfl rfl ?_ | refine A.nes rfl rfl ?_ | refine A.lts rfl rfl ?_ | refine A.gts rfl rfl ?_
        | refine A.not rfl ?_ | refine A.extract rfl rfl ?_ | refine A.add64 rfl rfl rfl (by omega) ?_ | refine A.sub64 rfl rfl rfl (by omega) ?_
        | refine A.call rfl hm (WeakL.refl _) ?_ | refine A.append (n := j) rfl rfl rfl rfl rfl rfl rfl rfl hjl rfl (by dsimp only [List.length_cons, List.length_nil]; omega) (by dsimp only [List.length_cons, List.length_nil]; omega) rfl ?_
      refine ⟨l[k].rows.length - (j + 1), by omega, [(6, .int .i64 ((j + 1 : Nat) : Int)), (5, .ptr 0 0), (4, .int .i64 k), (3, .vec 0 2 k 0 k), (0, Tbls.enc l)],
        ⟨rfl, rfl, rfl, rfl, rfl, trivial⟩, by simp [-List.map_take, belowS, AV.low, Tbl.lowL, Tbls.enc], ?_, j + 1, rfl, by omega, ?_, rfl⟩
      · have hp4 := Row.lowL 1 2 (l[k].rows.take j)
        have hp5 := Tbl.lowL 1 2 (l.take k)
        simp [-List.map_take, belowB, belowT, Ob.low, Tok.low, AV.lowL, AV.low, lowL_app, hp4, hp5, Mem.lowL]
      · rw [← take_enc' h2]; rfl
    · have d2 : decide ((j : Int) < (l[k].rows.length : Int)) = false := by simp; omega
      have hjn : j = l[k].rows.length := by omega
      subst hjn
      have hcan : (l[k].rows.take l[k].rows.length).map Row.enc = l[k].rows.map Row.enc := by rw [List.take_length]
      repeat' first
        | refine HCode.turnB 0 1 rfl rfl (Turn.weak (x := .slice ((l[k].rows.take l[k].rows.length).map Row.enc) (.own 1 4)) (y := .slice (l[k].rows.map Row.enc) .no) (Weak.no (WeakL.eq hcan))) rfl ?_
        | refine HCode.seq ?_ | refine HCode.region rfl ?_ | refine HCode.region_draw Lay.mix rfl ?_ | refine HCode.block ?_ | refine HCode.scope ?_ | refine HCode.skip ?_ | refine HCode.label ?_ | refine HCode.exit ?_ | refine HCode.ret ?_
        | refine HCode.cond_true rfl ?_ | refine HCode.cond_false rfl ?_ | refine HCode.cond_yes rfl (by assumption) ?_ | refine HCode.cond_no rfl (by assumption) ?_ | (refine HCode.cond rfl ?_ ?_ <;> intro hc)
        | refine A.nil_seq ?_ | refine A.nil (fun _ => rfl) ?_ | refine A.dead rfl ?_ | refine A.yes rfl rfl ?_ | refine A.no rfl rfl ?_ | refine A.yes rfl (by assumption) ?_ | refine A.no rfl (by assumption) ?_ | (refine A.guard rfl ?_ ?_ <;> intro hc)
        | refine A.move rfl ?_ | refine A.assign rfl ?_ | refine A.load_b rfl rfl rfl rfl ?_ | refine A.load_r rfl rfl rfl ?_ | refine A.field_b rfl rfl rfl rfl rfl rfl ?_ | refine A.field_r rfl rfl rfl rfl rfl rfl ?_ | refine A.field rfl rfl rfl rfl rfl ?_
        | refine A.index_r rfl rfl rfl rfl rfl rfl (by assumption) rfl ?_ | refine A.len rfl rfl rfl (by first | rw [List.length_map] | rfl) ?_ | refine A.lens rfl rfl rfl rfl ?_
        | refine A.pick_true rfl rfl rfl ?_ | refine A.pick_false rfl rfl rfl ?_ | refine A.pick_true rfl (by assumption) rfl ?_ | refine A.pick_false rfl (by assumption) rfl ?_
        | refine A.box rfl rfl rfl ?_ | refine A.alloc rfl rfl rfl ?_ | refine A.store rfl rfl rfl rfl rfl ?_ | refine A.build rfl rfl rfl rfl ?_ | refine A.buildSlice rfl rfl rfl rfl rfl rfl rfl ?_
        | refine A.eqi rfl rfl ?_ | refine A.nei rfl rfl ?_ | refine A.lss rfl rfl ?_ | refine A.leq rfl rfl ?_ | refine A.gtr rfl rfl ?_ | refine A.geq rfl rfl ?_ | refine A.eqb rfl rfl rfl rfl ?_ | refine A.neb rfl rfl rfl rfl ?_ | refine A.eqs rfl rfl ?_ | refine A.nes rfl rfl ?_ | refine A.lts rfl rfl ?_ | refine A.gts rfl rfl ?_
        | refine A.not rfl ?_ | refine A.extract rfl rfl ?_ | refine A.add64 rfl rfl rfl (by omega) ?_ | refine A.sub64 rfl rfl rfl (by omega) ?_
        | refine A.vappend (m := k + 1) rfl rfl rfl rfl rfl rfl rfl rfl htl rfl rfl (by dsimp only; omega) (by omega) rfl ?_
      refine ⟨l.length - (k + 1), by omega, [(4, .int .i64 ((k + 1 : Nat) : Int)), (3, .vec 0 2 (k + 1) 0 (k + 1)), (0, Tbls.enc l)],
        ⟨rfl, rfl, rfl, trivial⟩, by simp [belowS, AV.low, Tbls.enc, Tbl.lowL], ?_, k + 1, rfl, by omega, ?_, rfl⟩
      · have hp5 := Tbl.lowL 0 1 (l.take k)
        simp [-List.map_take, belowB, belowT, Ob.low, Tok.low, AV.lowL, AV.low, lowL_app, hp5, Row.lowL]
      · rw [← take_enc' h1]; rfl
  · have d1 : decide ((k : Int) < (l.length : Int)) = false := by simp; omega
    have hka : k = l.length := by omega
    subst hka
    repeat' first
      | refine HCode.seq ?_ | refine HCode.region rfl ?_ | refine HCode.region_draw Lay.mix rfl ?_ | refine HCode.block ?_ | refine HCode.scope ?_ | refine HCode.skip ?_ | refine HCode.label ?_ | refine HCode.exit ?_ | refine HCode.ret ?_
      | refine HCode.cond_true rfl ?_ | refine HCode.cond_false rfl ?_ | refine HCode.cond_yes rfl (by assumption) ?_ | refine HCode.cond_no rfl (by assumption) ?_ | (refine HCode.cond rfl ?_ ?_ <;> intro hc)
      | refine A.nil_seq ?_ | refine A.nil (fun _ => rfl) ?_ | refine A.dead rfl ?_ | refine A.yes rfl rfl ?_ | refine A.no rfl rfl ?_ | refine A.yes rfl (by assumption) ?_ | refine A.no rfl (by assumption) ?_ | (refine A.guard rfl ?_ ?_ <;> intro hc)
      | refine A.move rfl ?_ | refine A.assign rfl ?_ | refine A.load_b rfl rfl rfl rfl ?_ | refine A.load_r rfl rfl rfl ?_ | refine A.field_b rfl rfl rfl rfl rfl rfl ?_ | refine A.field_r rfl rfl rfl rfl rfl rfl ?_ | refine A.field rfl rfl rfl rfl rfl ?_
      | refine A.index_r rfl rfl rfl rfl rfl rfl (by assumption) rfl ?_ | refine A.len rfl rfl rfl (by first | rw [List.length_map] | rfl) ?_ | refine A.lens rfl rfl rfl rfl ?_
      | refine A.pick_true rfl rfl rfl ?_ | refine A.pick_false rfl rfl rfl ?_ | refine A.pick_true rfl (by assumption) rfl ?_ | refine A.pick_false rfl (by assumption) rfl ?_
      | refine A.box rfl rfl rfl ?_ | refine A.alloc rfl rfl rfl ?_ | refine A.store rfl rfl rfl rfl rfl ?_ | refine A.build rfl rfl rfl rfl ?_ | refine A.buildSlice rfl rfl rfl rfl rfl rfl rfl ?_
      | refine A.eqi rfl rfl ?_ | refine A.nei rfl rfl ?_ | refine A.lss rfl rfl ?_ | refine A.leq rfl rfl ?_ | refine A.gtr rfl rfl ?_ | refine A.geq rfl rfl ?_ | refine A.eqb rfl rfl rfl rfl ?_ | refine A.neb rfl rfl rfl rfl ?_ | refine A.eqs rfl rfl ?_ | refine A.nes rfl rfl ?_ | refine A.lts rfl rfl ?_ | refine A.gts rfl rfl ?_
      | refine A.not rfl ?_ | refine A.extract rfl rfl ?_ | refine A.add64 rfl rfl rfl (by omega) ?_ | refine A.sub64 rfl rfl rfl (by omega) ?_
    exact ⟨_, _, rfl, Turn.refl _ _, rfl, by simp⟩

theorem tablesV (l : List Tbl) (es : List Entry) (hf : Fine 1048576 l) :
    AFn Try.prog 42 [.ptr 0 0] (Sto l es) (fun e σ => e = .ret (.vec 1 2 l.length 0 l.length) ∧ σ = ⟨[.cells [Tbls.enc l, .slice (es.map Entry.enc) (.own 0 7)]], [.len es.length, .vec (l.map Tbl.enc)]⟩) := by
  refine AFn.meth (nB := 1) (mT := 2) (AFn.enter [2] Try.func42 rfl rfl rfl rfl rfl (by decide) ?_) (by simp) (by simp) rfl (by simp [belowB, Ob.low, AV.lowL, AV.low, Tbls.enc, Tbl.lowL, Entry.lowL]) (by simp [belowT, Tok.low, Tbl.lowL])
  have ht := twinA l l.length hf.len hf.rows hf.cols
  rw [twinTok_none] at ht
  repeat' first
    | refine HCode.seq ?_ | refine HCode.region rfl ?_ | refine HCode.region_draw Lay.mix rfl ?_ | refine HCode.block ?_ | refine HCode.scope ?_ | refine HCode.skip ?_ | refine HCode.label ?_ | refine HCode.exit ?_ | refine HCode.ret ?_
    | refine HCode.cond_true rfl ?_ | refine HCode.cond_false rfl ?_ | refine HCode.cond_yes rfl (by assumption) ?_ | refine HCode.cond_no rfl (by assumption) ?_ | (refine HCode.cond rfl ?_ ?_ <;> intro hc)
    | refine A.nil_seq ?_ | refine A.nil (fun _ => rfl) ?_ | refine A.dead rfl ?_ | refine A.yes rfl rfl ?_ | refine A.no rfl rfl ?_ | refine A.yes rfl (by assumption) ?_ | refine A.no rfl (by assumption) ?_ | (refine A.guard rfl ?_ ?_ <;> intro hc)
    | refine A.move rfl ?_ | refine A.assign rfl ?_ | refine A.load_b rfl rfl rfl rfl ?_ | refine A.load_r rfl rfl rfl ?_ | refine A.field_b rfl rfl rfl rfl rfl rfl ?_ | refine A.field_r rfl rfl rfl rfl rfl rfl ?_ | refine A.field rfl rfl rfl rfl rfl ?_
    | refine A.index_r rfl rfl rfl rfl rfl rfl (by assumption) rfl ?_ | refine A.len rfl rfl rfl (by first | rw [List.length_map] | rfl) ?_ | refine A.lens rfl rfl rfl rfl ?_
    | refine A.pick_true rfl rfl rfl ?_ | refine A.pick_false rfl rfl rfl ?_ | refine A.pick_true rfl (by assumption) rfl ?_ | refine A.pick_false rfl (by assumption) rfl ?_
    | refine A.box rfl rfl rfl ?_ | refine A.alloc rfl rfl rfl ?_ | refine A.store rfl rfl rfl rfl rfl ?_ | refine A.build rfl rfl rfl rfl ?_ | refine A.buildSlice rfl rfl rfl rfl rfl rfl rfl ?_
    | refine A.eqi rfl rfl ?_ | refine A.nei rfl rfl ?_ | refine A.lss rfl rfl ?_ | refine A.leq rfl rfl ?_ | refine A.gtr rfl rfl ?_ | refine A.geq rfl rfl ?_ | refine A.eqb rfl rfl rfl rfl ?_ | refine A.neb rfl rfl rfl rfl ?_ | refine A.eqs rfl rfl ?_ | refine A.nes rfl rfl ?_ | refine A.lts rfl rfl ?_ | refine A.gts rfl rfl ?_
    | refine A.not rfl ?_ | refine A.extract rfl rfl ?_ | refine A.add64 rfl rfl rfl (by omega) ?_ | refine A.sub64 rfl rfl rfl (by omega) ?_
    | refine A.peq rfl rfl rfl ?_ | refine A.nilCheck rfl ?_ | refine A.callT rfl ht (by simp [AV.closedL, Tbls.closed]) (Tbl.closedL _) (WeakL.refl _) rfl rfl ?_
  exact ⟨_, _, rfl, Turn.refl _ _, rfl, rfl⟩

theorem logV (l : List Tbl) (es : List Entry) (he : es.length ≤ 1048576) (hk : ∀ e ∈ es, e.b.keys.length ≤ 1048576) (ha : ∀ e ∈ es, e.c.args.length ≤ 1048576) :
    AFn Try.prog 43 [.ptr 0 0] (Sto l es) (fun e σ => e = .ret (.vec 1 7 es.length 0 es.length) ∧ σ = ⟨[.cells [Tbls.enc l, .slice (es.map Entry.enc) (.own 0 7)]], [.len es.length, .vec (es.map Entry.enc)]⟩) := by
  refine AFn.meth (nB := 1) (mT := 2) (AFn.enter [2] Try.func43 rfl rfl rfl rfl rfl (by decide) ?_) (by simp) (by simp) rfl (by simp [belowB, Ob.low, AV.lowL, AV.low, Tbls.enc, Tbl.lowL, Entry.lowL]) (by simp [belowT, Tok.low, Entry.lowL])
  repeat' first
    | refine HCode.seq ?_ | refine HCode.region rfl ?_ | refine HCode.region_draw Lay.mix rfl ?_ | refine HCode.block ?_ | refine HCode.scope ?_ | refine HCode.skip ?_ | refine HCode.label ?_ | refine HCode.exit ?_ | refine HCode.ret ?_
    | refine HCode.cond_true rfl ?_ | refine HCode.cond_false rfl ?_ | refine HCode.cond_yes rfl (by assumption) ?_ | refine HCode.cond_no rfl (by assumption) ?_ | (refine HCode.cond rfl ?_ ?_ <;> intro hc)
    | refine A.nil_seq ?_ | refine A.nil (fun _ => rfl) ?_ | refine A.dead rfl ?_ | refine A.yes rfl rfl ?_ | refine A.no rfl rfl ?_ | refine A.yes rfl (by assumption) ?_ | refine A.no rfl (by assumption) ?_ | (refine A.guard rfl ?_ ?_ <;> intro hc)
    | refine A.move rfl ?_ | refine A.assign rfl ?_ | refine A.load_b rfl rfl rfl rfl ?_ | refine A.load_r rfl rfl rfl ?_ | refine A.field_b rfl rfl rfl rfl rfl rfl ?_ | refine A.field_r rfl rfl rfl rfl rfl rfl ?_ | refine A.field rfl rfl rfl rfl rfl ?_
    | refine A.index_r rfl rfl rfl rfl rfl rfl (by assumption) rfl ?_ | refine A.len rfl rfl rfl (by first | rw [List.length_map] | rfl) ?_ | refine A.lens rfl rfl rfl rfl ?_
    | refine A.pick_true rfl rfl rfl ?_ | refine A.pick_false rfl rfl rfl ?_ | refine A.pick_true rfl (by assumption) rfl ?_ | refine A.pick_false rfl (by assumption) rfl ?_
    | refine A.box rfl rfl rfl ?_ | refine A.alloc rfl rfl rfl ?_ | refine A.store rfl rfl rfl rfl rfl ?_ | refine A.build rfl rfl rfl rfl ?_ | refine A.buildSlice rfl rfl rfl rfl rfl rfl rfl ?_
    | refine A.eqi rfl rfl ?_ | refine A.nei rfl rfl ?_ | refine A.lss rfl rfl ?_ | refine A.leq rfl rfl ?_ | refine A.gtr rfl rfl ?_ | refine A.geq rfl rfl ?_ | refine A.eqb rfl rfl rfl rfl ?_ | refine A.neb rfl rfl rfl rfl ?_ | refine A.eqs rfl rfl ?_ | refine A.nes rfl rfl ?_ | refine A.lts rfl rfl ?_ | refine A.gts rfl rfl ?_
    | refine A.not rfl ?_ | refine A.extract rfl rfl ?_ | refine A.add64 rfl rfl rfl (by omega) ?_ | refine A.sub64 rfl rfl rfl (by omega) ?_
    | refine A.peq rfl rfl rfl ?_ | refine A.nilCheck rfl ?_
  change HCode _ _ _ _ _ _ _
  refine HCode.turn 3 rfl (Turn.vadopt (z := 7) rfl rfl rfl) ?_
  refine HCode.loop (fun n s σ => ∃ k : Nat, n = es.length - k ∧ k ≤ es.length ∧ σ = ⟨[.cells [Tbls.enc l, .slice (es.map Entry.enc) (.own 0 7)]], [.len es.length, .vec ((es.take k).map Entry.enc)]⟩ ∧
    s = [(13, .int .i64 k), (12, .int .i64 es.length), (11, .slice (es.map Entry.enc) (.own 0 7)), (3, .vec 1 7 k 0 k)])
    (s0 := [(13, .int .i64 (0 : Nat)), (12, .int .i64 es.length), (11, .slice (es.map Entry.enc) (.own 0 7)), (3, .vec 1 7 0 0 0)]) ⟨rfl, rfl, rfl, rfl, trivial⟩ ⟨0, rfl, Nat.zero_le _, rfl, rfl⟩ ?_
  rintro n s σ ⟨k, rfl, hk', rfl, rfl⟩
  have htl : ((es.take k).map Entry.enc).length = k := by simp; omega
  by_cases h1 : k < es.length
  · have d1 : decide ((k : Int) < (es.length : Int)) = true := by simp [h1]
    have x1 := map_get' (f := Entry.enc) h1
    have hb := batchC es[k].b (hk _ (List.getElem_mem h1))
    have hc := cmdC es[k].c (ha _ (List.getElem_mem h1))
    repeat' first
      | refine HCode.seq ?_ | refine HCode.region rfl ?_ | refine HCode.region_draw Lay.mix rfl ?_ | refine HCode.block ?_ | refine HCode.scope ?_ | refine HCode.skip ?_ | refine HCode.label ?_ | refine HCode.exit ?_ | refine HCode.ret ?_
      | refine HCode.cond_true rfl ?_ | refine HCode.cond_false rfl ?_ | refine HCode.cond_yes rfl (by assumption) ?_ | refine HCode.cond_no rfl (by assumption) ?_ | (refine HCode.cond rfl ?_ ?_ <;> intro hc)
      | refine A.nil_seq ?_ | refine A.nil (fun _ => rfl) ?_ | refine A.dead rfl ?_ | refine A.yes rfl rfl ?_ | refine A.no rfl rfl ?_ | refine A.yes rfl (by assumption) ?_ | refine A.no rfl (by assumption) ?_ | (refine A.guard rfl ?_ ?_ <;> intro hc)
      | refine A.move rfl ?_ | refine A.assign rfl ?_ | refine A.load_b rfl rfl rfl rfl ?_ | refine A.load_r rfl rfl rfl ?_ | refine A.field_b rfl rfl rfl rfl rfl rfl ?_ | refine A.field_r rfl rfl rfl rfl rfl rfl ?_ | refine A.field rfl rfl rfl rfl rfl ?_
      | refine A.index_r rfl rfl rfl rfl rfl rfl (by assumption) rfl ?_ | refine A.len rfl rfl rfl (by first | rw [List.length_map] | rfl) ?_ | refine A.lens rfl rfl rfl rfl ?_
      | refine A.pick_true rfl rfl rfl ?_ | refine A.pick_false rfl rfl rfl ?_ | refine A.pick_true rfl (by assumption) rfl ?_ | refine A.pick_false rfl (by assumption) rfl ?_
      | refine A.box rfl rfl rfl ?_ | refine A.alloc rfl rfl rfl ?_ | refine A.store rfl rfl rfl rfl rfl ?_ | refine A.build rfl rfl rfl rfl ?_ | refine A.buildSlice rfl rfl rfl rfl rfl rfl rfl ?_
      | refine A.eqi rfl rfl ?_ | refine A.nei rfl rfl ?_ | refine A.lss rfl rfl ?_ | refine A.leq rfl rfl ?_ | refine A.gtr rfl rfl ?_ | refine A.geq rfl rfl ?_ | refine A.eqb rfl rfl rfl rfl ?_ | refine A.neb rfl rfl rfl rfl ?_ | refine A.eqs rfl rfl ?_ | refine A.nes rfl rfl ?_ | refine A.lts rfl rfl ?_ | refine A.gts rfl rfl ?_
      | refine A.not rfl ?_ | refine A.extract rfl rfl ?_ | refine A.add64 rfl rfl rfl (by omega) ?_ | refine A.sub64 rfl rfl rfl (by omega) ?_
      | refine A.call rfl hb (WeakL.refl _) ?_ | refine A.call rfl hc (WeakL.refl _) ?_ | refine A.vappend (m := k + 1) rfl rfl rfl rfl rfl rfl rfl rfl htl rfl rfl (by dsimp only; omega) (by omega) rfl ?_
    refine ⟨es.length - (k + 1), by omega, [(13, .int .i64 ((k + 1 : Nat) : Int)), (12, .int .i64 es.length), (11, .slice (es.map Entry.enc) (.own 0 7)), (3, .vec 1 7 (k + 1) 0 (k + 1))],
      ⟨rfl, rfl, rfl, rfl, trivial⟩, by simp [-List.map_take, belowS, AV.low, Entry.lowL], ?_, k + 1, rfl, by omega, ?_, rfl⟩
    · have hp5 := Entry.lowL 1 2 (es.take k)
      have hp6 := AV.lowL_of_closed 1 2 _ (strs_closed es[k].b.keys)
      simp [-List.map_take, belowB, belowT, Tok.low, Ob.low, AV.low, AV.lowL, Entry.lowL, Tbls.enc, Tbl.lowL, lowL_app, hp5, Mem.lowL, hp6]
    · rw [← take_enc' (f := Entry.enc) h1]; rfl
  · have d1 : decide ((k : Int) < (es.length : Int)) = false := by simp; omega
    have hka : k = es.length := by omega
    subst hka
    repeat' first
      | refine HCode.seq ?_ | refine HCode.region rfl ?_ | refine HCode.region_draw Lay.mix rfl ?_ | refine HCode.block ?_ | refine HCode.scope ?_ | refine HCode.skip ?_ | refine HCode.label ?_ | refine HCode.exit ?_ | refine HCode.ret ?_
      | refine HCode.cond_true rfl ?_ | refine HCode.cond_false rfl ?_ | refine HCode.cond_yes rfl (by assumption) ?_ | refine HCode.cond_no rfl (by assumption) ?_ | (refine HCode.cond rfl ?_ ?_ <;> intro hc)
      | refine A.nil_seq ?_ | refine A.nil (fun _ => rfl) ?_ | refine A.dead rfl ?_ | refine A.yes rfl rfl ?_ | refine A.no rfl rfl ?_ | refine A.yes rfl (by assumption) ?_ | refine A.no rfl (by assumption) ?_ | (refine A.guard rfl ?_ ?_ <;> intro hc)
      | refine A.move rfl ?_ | refine A.assign rfl ?_ | refine A.load_b rfl rfl rfl rfl ?_ | refine A.load_r rfl rfl rfl ?_ | refine A.field_b rfl rfl rfl rfl rfl rfl ?_ | refine A.field_r rfl rfl rfl rfl rfl rfl ?_ | refine A.field rfl rfl rfl rfl rfl ?_
      | refine A.index_r rfl rfl rfl rfl rfl rfl (by assumption) rfl ?_ | refine A.len rfl rfl rfl (by first | rw [List.length_map] | rfl) ?_ | refine A.lens rfl rfl rfl rfl ?_
      | refine A.pick_true rfl rfl rfl ?_ | refine A.pick_false rfl rfl rfl ?_ | refine A.pick_true rfl (by assumption) rfl ?_ | refine A.pick_false rfl (by assumption) rfl ?_
      | refine A.box rfl rfl rfl ?_ | refine A.alloc rfl rfl rfl ?_ | refine A.store rfl rfl rfl rfl rfl ?_ | refine A.build rfl rfl rfl rfl ?_ | refine A.buildSlice rfl rfl rfl rfl rfl rfl rfl ?_
      | refine A.eqi rfl rfl ?_ | refine A.nei rfl rfl ?_ | refine A.lss rfl rfl ?_ | refine A.leq rfl rfl ?_ | refine A.gtr rfl rfl ?_ | refine A.geq rfl rfl ?_ | refine A.eqb rfl rfl rfl rfl ?_ | refine A.neb rfl rfl rfl rfl ?_ | refine A.eqs rfl rfl ?_ | refine A.nes rfl rfl ?_ | refine A.lts rfl rfl ?_ | refine A.gts rfl rfl ?_
      | refine A.not rfl ?_ | refine A.extract rfl rfl ?_ | refine A.add64 rfl rfl rfl (by omega) ?_ | refine A.sub64 rfl rfl rfl (by omega) ?_
    exact ⟨_, _, rfl, Turn.refl _ _, rfl, by simp⟩

theorem sameBatch (b : Batch) (h : b.keys.length ≤ 9223372036854775807) : PFn Try.prog 79 [b.enc, b.enc] (.bool true) := by
  refine AFn.plain rfl (by simp [AV.closedL, Batch.closed]) (AFn.enter [4] Try.func79 rfl rfl rfl rfl rfl (by decide) ?_)
  have e0 : ((b.keys.length : Int) != (b.keys.length : Int)) = false := by simp
  have e1 : (b.table != b.table) = false := by simp
  repeat' first
    | refine A.box_r rfl rfl ?_
    | refine HCode.seq ?_ | refine HCode.region rfl ?_ | refine HCode.region_draw Lay.mix rfl ?_ | refine HCode.block ?_ | refine HCode.scope ?_ | refine HCode.skip ?_ | refine HCode.label ?_ | refine HCode.exit ?_ | refine HCode.ret ?_
    | refine HCode.cond_true rfl ?_ | refine HCode.cond_false rfl ?_ | refine HCode.cond_yes rfl (by assumption) ?_ | refine HCode.cond_no rfl (by assumption) ?_ | (refine HCode.cond rfl ?_ ?_ <;> intro hc)
    | refine A.nil_seq ?_ | refine A.nil (fun _ => rfl) ?_ | refine A.dead rfl ?_ | refine A.yes rfl rfl ?_ | refine A.no rfl rfl ?_ | refine A.yes rfl (by assumption) ?_ | refine A.no rfl (by assumption) ?_ | (refine A.guard rfl ?_ ?_ <;> intro hc)
    | refine A.move rfl ?_ | refine A.assign rfl ?_ | refine A.load_b rfl rfl rfl rfl ?_ | refine A.load_r rfl rfl rfl ?_ | refine A.field_b rfl rfl rfl rfl rfl rfl ?_ | refine A.field_r rfl rfl rfl rfl rfl rfl ?_ | refine A.field rfl rfl rfl rfl rfl ?_
    | refine A.index_r rfl rfl rfl rfl rfl rfl (by assumption) rfl ?_ | refine A.len rfl rfl rfl (by first | rw [List.length_map] | rfl) ?_ | refine A.lens rfl rfl rfl rfl ?_
    | refine A.pick_true rfl rfl rfl ?_ | refine A.pick_false rfl rfl rfl ?_ | refine A.pick_true rfl (by assumption) rfl ?_ | refine A.pick_false rfl (by assumption) rfl ?_
    | refine A.box rfl rfl rfl ?_ | refine A.alloc rfl rfl rfl ?_ | refine A.store rfl rfl rfl rfl rfl ?_ | refine A.build rfl rfl rfl rfl ?_ | refine A.buildSlice rfl rfl rfl rfl rfl rfl rfl ?_
    | refine A.eqi rfl rfl ?_ | refine A.nei rfl rfl ?_ | refine A.lss rfl rfl ?_ | refine A.leq rfl rfl ?_ | refine A.gtr rfl rfl ?_ | refine A.geq rfl rfl ?_ | refine A.eqb rfl rfl rfl rfl ?_ | refine A.neb rfl rfl rfl rfl ?_ | refine A.eqs rfl rfl ?_ | refine A.nes rfl rfl ?_ | refine A.lts rfl rfl ?_ | refine A.gts rfl rfl ?_
    | refine A.not rfl ?_ | refine A.extract rfl rfl ?_ | refine A.add64 rfl rfl rfl (by omega) ?_ | refine A.sub64 rfl rfl rfl (by omega) ?_
    | fail
  change HCode _ _ _ _ _ _ _
  refine HCode.loop (fun n s σ => ∃ k : Nat, n = b.keys.length - k ∧ k ≤ b.keys.length ∧ σ = ⟨[], []⟩ ∧ s = [(5, .int .i64 k), (2, .rptr b.enc), (3, .rptr b.enc)])
    (s0 := [(5, .int .i64 (0 : Nat)), (2, .rptr b.enc), (3, .rptr b.enc)]) ⟨rfl, rfl, rfl, trivial⟩ ⟨0, rfl, Nat.zero_le _, rfl, rfl⟩ ?_
  rintro n s σ ⟨k, rfl, hk, rfl, rfl⟩
  by_cases h1 : k < b.keys.length
  · have d1 : decide ((k : Int) < (b.keys.length : Int)) = true := by simp [h1]
    have x1 := map_get' (f := AV.str) h1
    have e2 : (b.keys[k] != b.keys[k]) = false := by simp
    repeat' first
      | refine A.field_r rfl rfl rfl rfl ?_
      | refine HCode.seq ?_ | refine HCode.region rfl ?_ | refine HCode.region_draw Lay.mix rfl ?_ | refine HCode.block ?_ | refine HCode.scope ?_ | refine HCode.skip ?_ | refine HCode.label ?_ | refine HCode.exit ?_ | refine HCode.ret ?_
      | refine HCode.cond_true rfl ?_ | refine HCode.cond_false rfl ?_ | refine HCode.cond_yes rfl (by assumption) ?_ | refine HCode.cond_no rfl (by assumption) ?_ | (refine HCode.cond rfl ?_ ?_ <;> intro hc)
      | refine A.nil_seq ?_ | refine A.nil (fun _ => rfl) ?_ | refine A.dead rfl ?_ | refine A.yes rfl rfl ?_ | refine A.no rfl rfl ?_ | refine A.yes rfl (by assumption) ?_ | refine A.no rfl (by assumption) ?_ | (refine A.guard rfl ?_ ?_ <;> intro hc)
      | refine A.move rfl ?_ | refine A.assign rfl ?_ | refine A.load_b rfl rfl rfl rfl ?_ | refine A.load_r rfl rfl rfl ?_ | refine A.field_b rfl rfl rfl rfl rfl rfl ?_ | refine A.field_r rfl rfl rfl rfl rfl rfl ?_ | refine A.field rfl rfl rfl rfl rfl ?_
      | refine A.index_r rfl rfl rfl rfl rfl rfl (by assumption) rfl ?_ | refine A.len rfl rfl rfl (by first | rw [List.length_map] | rfl) ?_ | refine A.lens rfl rfl rfl rfl ?_
      | refine A.pick_true rfl rfl rfl ?_ | refine A.pick_false rfl rfl rfl ?_ | refine A.pick_true rfl (by assumption) rfl ?_ | refine A.pick_false rfl (by assumption) rfl ?_
      | refine A.box rfl rfl rfl ?_ | refine A.alloc rfl rfl rfl ?_ | refine A.store rfl rfl rfl rfl rfl ?_ | refine A.build rfl rfl rfl rfl ?_ | refine A.buildSlice rfl rfl rfl rfl rfl rfl rfl ?_
      | refine A.eqi rfl rfl ?_ | refine A.nei rfl rfl ?_ | refine A.lss rfl rfl ?_ | refine A.leq rfl rfl ?_ | refine A.gtr rfl rfl ?_ | refine A.geq rfl rfl ?_ | refine A.eqb rfl rfl rfl rfl ?_ | refine A.neb rfl rfl rfl rfl ?_ | refine A.eqs rfl rfl ?_ | refine A.nes rfl rfl ?_ | refine A.lts rfl rfl ?_ | refine A.gts rfl rfl ?_
      | refine A.not rfl ?_ | refine A.extract rfl rfl ?_ | refine A.add64 rfl rfl rfl (by omega) ?_ | refine A.sub64 rfl rfl rfl (by omega) ?_
      | fail
    exact ⟨b.keys.length - (k + 1), by omega, [(5, .int .i64 ((k + 1 : Nat) : Int)), (2, .rptr b.enc), (3, .rptr b.enc)],
      ⟨rfl, rfl, rfl, trivial⟩, by simp [belowS, AV.low, AV.low_of_closed _ _ _ (Batch.closed b)], rfl, k + 1, rfl, by omega, rfl, rfl⟩
  · have d1 : decide ((k : Int) < (b.keys.length : Int)) = false := by simp; omega
    repeat' first
      | refine A.field_r rfl rfl rfl rfl ?_
      | refine HCode.seq ?_ | refine HCode.region rfl ?_ | refine HCode.region_draw Lay.mix rfl ?_ | refine HCode.block ?_ | refine HCode.scope ?_ | refine HCode.skip ?_ | refine HCode.label ?_ | refine HCode.exit ?_ | refine HCode.ret ?_
      | refine HCode.cond_true rfl ?_ | refine HCode.cond_false rfl ?_ | refine HCode.cond_yes rfl (by assumption) ?_ | refine HCode.cond_no rfl (by assumption) ?_ | (refine HCode.cond rfl ?_ ?_ <;> intro hc)
      | refine A.nil_seq ?_ | refine A.nil (fun _ => rfl) ?_ | refine A.dead rfl ?_ | refine A.yes rfl rfl ?_ | refine A.no rfl rfl ?_ | refine A.yes rfl (by assumption) ?_ | refine A.no rfl (by assumption) ?_ | (refine A.guard rfl ?_ ?_ <;> intro hc)
      | refine A.move rfl ?_ | refine A.assign rfl ?_ | refine A.load_b rfl rfl rfl rfl ?_ | refine A.load_r rfl rfl rfl ?_ | refine A.field_b rfl rfl rfl rfl rfl rfl ?_ | refine A.field_r rfl rfl rfl rfl rfl rfl ?_ | refine A.field rfl rfl rfl rfl rfl ?_
      | refine A.index_r rfl rfl rfl rfl rfl rfl (by assumption) rfl ?_ | refine A.len rfl rfl rfl (by first | rw [List.length_map] | rfl) ?_ | refine A.lens rfl rfl rfl rfl ?_
      | refine A.pick_true rfl rfl rfl ?_ | refine A.pick_false rfl rfl rfl ?_ | refine A.pick_true rfl (by assumption) rfl ?_ | refine A.pick_false rfl (by assumption) rfl ?_
      | refine A.box rfl rfl rfl ?_ | refine A.alloc rfl rfl rfl ?_ | refine A.store rfl rfl rfl rfl rfl ?_ | refine A.build rfl rfl rfl rfl ?_ | refine A.buildSlice rfl rfl rfl rfl rfl rfl rfl ?_
      | refine A.eqi rfl rfl ?_ | refine A.nei rfl rfl ?_ | refine A.lss rfl rfl ?_ | refine A.leq rfl rfl ?_ | refine A.gtr rfl rfl ?_ | refine A.geq rfl rfl ?_ | refine A.eqb rfl rfl rfl rfl ?_ | refine A.neb rfl rfl rfl rfl ?_ | refine A.eqs rfl rfl ?_ | refine A.nes rfl rfl ?_ | refine A.lts rfl rfl ?_ | refine A.gts rfl rfl ?_
      | refine A.not rfl ?_ | refine A.extract rfl rfl ?_ | refine A.add64 rfl rfl rfl (by omega) ?_ | refine A.sub64 rfl rfl rfl (by omega) ?_
      | fail
    exact Fin.ret1 rfl (Weak.refl _)
theorem sameCmd (c : Cmd) (h : sumSize Mem.size c.args ≤ 9223372036854775807) : PFn Try.prog 80 [c.enc, c.enc] (.bool true) := by
  refine AFn.plain rfl (by simp [AV.closedL, Cmd.closed]) (AFn.enter [4] Try.func80 rfl rfl rfl rfl rfl (by decide) ?_)
  have hm := members c.args c.args h
  rw [sameM_refl] at hm
  have e1 : (c.name == c.name) = true := by simp
  have e2 : (c.table == c.table) = true := by simp
  have e3 : (c.col == c.col) = true := by simp
  have e4 : (c.typ == c.typ) = true := by simp
  repeat' first
    | refine A.box_r rfl rfl ?_
    | refine HCode.seq ?_ | refine HCode.region rfl ?_ | refine HCode.region_draw Lay.mix rfl ?_ | refine HCode.block ?_ | refine HCode.scope ?_ | refine HCode.skip ?_ | refine HCode.label ?_ | refine HCode.exit ?_ | refine HCode.ret ?_
    | refine HCode.cond_true rfl ?_ | refine HCode.cond_false rfl ?_ | refine HCode.cond_yes rfl (by assumption) ?_ | refine HCode.cond_no rfl (by assumption) ?_ | (refine HCode.cond rfl ?_ ?_ <;> intro hc)
    | refine A.nil_seq ?_ | refine A.nil (fun _ => rfl) ?_ | refine A.dead rfl ?_ | refine A.yes rfl rfl ?_ | refine A.no rfl rfl ?_ | refine A.yes rfl (by assumption) ?_ | refine A.no rfl (by assumption) ?_ | (refine A.guard rfl ?_ ?_ <;> intro hc)
    | refine A.move rfl ?_ | refine A.assign rfl ?_ | refine A.load_b rfl rfl rfl rfl ?_ | refine A.load_r rfl rfl rfl ?_ | refine A.field_b rfl rfl rfl rfl rfl rfl ?_ | refine A.field_r rfl rfl rfl rfl rfl rfl ?_ | refine A.field rfl rfl rfl rfl rfl ?_
    | refine A.index_r rfl rfl rfl rfl rfl rfl (by assumption) rfl ?_ | refine A.len rfl rfl rfl (by first | rw [List.length_map] | rfl) ?_ | refine A.lens rfl rfl rfl rfl ?_
    | refine A.pick_true rfl rfl rfl ?_ | refine A.pick_false rfl rfl rfl ?_ | refine A.pick_true rfl (by assumption) rfl ?_ | refine A.pick_false rfl (by assumption) rfl ?_
    | refine A.box rfl rfl rfl ?_ | refine A.alloc rfl rfl rfl ?_ | refine A.store rfl rfl rfl rfl rfl ?_ | refine A.build rfl rfl rfl rfl ?_ | refine A.buildSlice rfl rfl rfl rfl rfl rfl rfl ?_
    | refine A.eqi rfl rfl ?_ | refine A.nei rfl rfl ?_ | refine A.lss rfl rfl ?_ | refine A.leq rfl rfl ?_ | refine A.gtr rfl rfl ?_ | refine A.geq rfl rfl ?_ | refine A.eqb rfl rfl rfl rfl ?_ | refine A.neb rfl rfl rfl rfl ?_ | refine A.eqs rfl rfl ?_ | refine A.nes rfl rfl ?_ | refine A.lts rfl rfl ?_ | refine A.gts rfl rfl ?_
    | refine A.not rfl ?_ | refine A.extract rfl rfl ?_ | refine A.add64 rfl rfl rfl (by omega) ?_ | refine A.sub64 rfl rfl rfl (by omega) ?_
    | refine A.call rfl hm (WeakL.refl _) ?_
  all_goals exact Fin.ret1 rfl (Weak.refl _)
theorem sameLog (es : List Entry) (hl : es.length ≤ 9223372036854775807) (hk : ∀ e ∈ es, e.b.keys.length ≤ 9223372036854775807) (ha : ∀ e ∈ es, sumSize Mem.size e.c.args ≤ 9223372036854775807) :
    PFn Try.prog 44 [.slice (es.map Entry.enc) .no, .slice (es.map Entry.enc) .no] (.bool true) := by
  refine AFn.plain rfl (by simp [AV.closedL, AV.closed, Entry.closedL]) (AFn.enter [4] Try.func44 rfl rfl rfl rfl rfl (by decide) ?_)
  have e0 : ((es.length : Int) != (es.length : Int)) = false := by simp
  repeat' first
    | refine HCode.seq ?_ | refine HCode.region rfl ?_ | refine HCode.region_draw Lay.mix rfl ?_ | refine HCode.block ?_ | refine HCode.scope ?_ | refine HCode.skip ?_ | refine HCode.label ?_ | refine HCode.exit ?_ | refine HCode.ret ?_
    | refine HCode.cond_true rfl ?_ | refine HCode.cond_false rfl ?_ | refine HCode.cond_yes rfl (by assumption) ?_ | refine HCode.cond_no rfl (by assumption) ?_ | (refine HCode.cond rfl ?_ ?_ <;> intro hc)
    | refine A.nil_seq ?_ | refine A.nil (fun _ => rfl) ?_ | refine A.dead rfl ?_ | refine A.yes rfl rfl ?_ | refine A.no rfl rfl ?_ | refine A.yes rfl (by assumption) ?_ | refine A.no rfl (by assumption) ?_ | (refine A.guard rfl ?_ ?_ <;> intro hc)
    | refine A.move rfl ?_ | refine A.assign rfl ?_ | refine A.load_b rfl rfl rfl rfl ?_ | refine A.load_r rfl rfl rfl ?_ | refine A.field_b rfl rfl rfl rfl rfl rfl ?_ | refine A.field_r rfl rfl rfl rfl rfl rfl ?_ | refine A.field rfl rfl rfl rfl rfl ?_
    | refine A.index_r rfl rfl rfl rfl rfl rfl (by assumption) rfl ?_ | refine A.len rfl rfl rfl (by first | rw [List.length_map] | rfl) ?_ | refine A.lens rfl rfl rfl rfl ?_
    | refine A.pick_true rfl rfl rfl ?_ | refine A.pick_false rfl rfl rfl ?_ | refine A.pick_true rfl (by assumption) rfl ?_ | refine A.pick_false rfl (by assumption) rfl ?_
    | refine A.box rfl rfl rfl ?_ | refine A.alloc rfl rfl rfl ?_ | refine A.store rfl rfl rfl rfl rfl ?_ | refine A.build rfl rfl rfl rfl ?_ | refine A.buildSlice rfl rfl rfl rfl rfl rfl rfl ?_
    | refine A.eqi rfl rfl ?_ | refine A.nei rfl rfl ?_ | refine A.lss rfl rfl ?_ | refine A.leq rfl rfl ?_ | refine A.gtr rfl rfl ?_ | refine A.geq rfl rfl ?_ | refine A.eqb rfl rfl rfl rfl ?_ | refine A.neb rfl rfl rfl rfl ?_ | refine A.eqs rfl rfl ?_ | refine A.nes rfl rfl ?_ | refine A.lts rfl rfl ?_ | refine A.gts rfl rfl ?_
    | refine A.not rfl ?_ | refine A.extract rfl rfl ?_ | refine A.add64 rfl rfl rfl (by omega) ?_ | refine A.sub64 rfl rfl rfl (by omega) ?_
  change HCode _ _ _ _ _ _ _
  refine HCode.loop (fun n s σ => ∃ k : Nat, n = es.length - k ∧ k ≤ es.length ∧ σ = ⟨[], []⟩ ∧ s = [(5, .int .i64 k), (0, .slice (es.map Entry.enc) .no), (1, .slice (es.map Entry.enc) .no)])
    (s0 := [(5, .int .i64 (0 : Nat)), (0, .slice (es.map Entry.enc) .no), (1, .slice (es.map Entry.enc) .no)]) ⟨rfl, rfl, rfl, trivial⟩ ⟨0, rfl, Nat.zero_le _, rfl, rfl⟩ ?_
  rintro n s σ ⟨k, rfl, hk', rfl, rfl⟩
  by_cases h1 : k < es.length
  · have d1 : decide ((k : Int) < (es.length : Int)) = true := by simp [h1]
    have x1 := map_get' (f := Entry.enc) h1
    have hb := sameBatch es[k].b (hk _ (List.getElem_mem h1))
    have hc := sameCmd es[k].c (ha _ (List.getElem_mem h1))
    repeat' first
      | refine HCode.seq ?_ | refine HCode.region rfl ?_ | refine HCode.region_draw Lay.mix rfl ?_ | refine HCode.block ?_ | refine HCode.scope ?_ | refine HCode.skip ?_ | refine HCode.label ?_ | refine HCode.exit ?_ | refine HCode.ret ?_
      | refine HCode.cond_true rfl ?_ | refine HCode.cond_false rfl ?_ | refine HCode.cond_yes rfl (by assumption) ?_ | refine HCode.cond_no rfl (by assumption) ?_ | (refine HCode.cond rfl ?_ ?_ <;> intro hc)
      | refine A.nil_seq ?_ | refine A.nil (fun _ => rfl) ?_ | refine A.dead rfl ?_ | refine A.yes rfl rfl ?_ | refine A.no rfl rfl ?_ | refine A.yes rfl (by assumption) ?_ | refine A.no rfl (by assumption) ?_ | (refine A.guard rfl ?_ ?_ <;> intro hc)
      | refine A.move rfl ?_ | refine A.assign rfl ?_ | refine A.load_b rfl rfl rfl rfl ?_ | refine A.load_r rfl rfl rfl ?_ | refine A.field_b rfl rfl rfl rfl rfl rfl ?_ | refine A.field_r rfl rfl rfl rfl rfl rfl ?_ | refine A.field rfl rfl rfl rfl rfl ?_
      | refine A.index_r rfl rfl rfl rfl rfl rfl (by assumption) rfl ?_ | refine A.len rfl rfl rfl (by first | rw [List.length_map] | rfl) ?_ | refine A.lens rfl rfl rfl rfl ?_
      | refine A.pick_true rfl rfl rfl ?_ | refine A.pick_false rfl rfl rfl ?_ | refine A.pick_true rfl (by assumption) rfl ?_ | refine A.pick_false rfl (by assumption) rfl ?_
      | refine A.box rfl rfl rfl ?_ | refine A.alloc rfl rfl rfl ?_ | refine A.store rfl rfl rfl rfl rfl ?_ | refine A.build rfl rfl rfl rfl ?_ | refine A.buildSlice rfl rfl rfl rfl rfl rfl rfl ?_
      | refine A.eqi rfl rfl ?_ | refine A.nei rfl rfl ?_ | refine A.lss rfl rfl ?_ | refine A.leq rfl rfl ?_ | refine A.gtr rfl rfl ?_ | refine A.geq rfl rfl ?_ | refine A.eqb rfl rfl rfl rfl ?_ | refine A.neb rfl rfl rfl rfl ?_ | refine A.eqs rfl rfl ?_ | refine A.nes rfl rfl ?_ | refine A.lts rfl rfl ?_ | refine A.gts rfl rfl ?_
      | refine A.not rfl ?_ | refine A.extract rfl rfl ?_ | refine A.add64 rfl rfl rfl (by omega) ?_ | refine A.sub64 rfl rfl rfl (by omega) ?_
      | refine A.call rfl hb (WeakL.refl _) ?_ | refine A.call rfl hc (WeakL.refl _) ?_
    exact ⟨es.length - (k + 1), by omega, [(5, .int .i64 ((k + 1 : Nat) : Int)), (0, .slice (es.map Entry.enc) .no), (1, .slice (es.map Entry.enc) .no)],
      ⟨rfl, rfl, rfl, trivial⟩, by simp [belowS, AV.low, Entry.lowL], rfl, k + 1, rfl, by omega, rfl, rfl⟩
  · have d1 : decide ((k : Int) < (es.length : Int)) = false := by simp; omega
    repeat' first
      | refine HCode.seq ?_ | refine HCode.region rfl ?_ | refine HCode.region_draw Lay.mix rfl ?_ | refine HCode.block ?_ | refine HCode.scope ?_ | refine HCode.skip ?_ | refine HCode.label ?_ | refine HCode.exit ?_ | refine HCode.ret ?_
      | refine HCode.cond_true rfl ?_ | refine HCode.cond_false rfl ?_ | refine HCode.cond_yes rfl (by assumption) ?_ | refine HCode.cond_no rfl (by assumption) ?_ | (refine HCode.cond rfl ?_ ?_ <;> intro hc)
      | refine A.nil_seq ?_ | refine A.nil (fun _ => rfl) ?_ | refine A.dead rfl ?_ | refine A.yes rfl rfl ?_ | refine A.no rfl rfl ?_ | refine A.yes rfl (by assumption) ?_ | refine A.no rfl (by assumption) ?_ | (refine A.guard rfl ?_ ?_ <;> intro hc)
      | refine A.move rfl ?_ | refine A.assign rfl ?_ | refine A.load_b rfl rfl rfl rfl ?_ | refine A.load_r rfl rfl rfl ?_ | refine A.field_b rfl rfl rfl rfl rfl rfl ?_ | refine A.field_r rfl rfl rfl rfl rfl rfl ?_ | refine A.field rfl rfl rfl rfl rfl ?_
      | refine A.index_r rfl rfl rfl rfl rfl rfl (by assumption) rfl ?_ | refine A.len rfl rfl rfl (by first | rw [List.length_map] | rfl) ?_ | refine A.lens rfl rfl rfl rfl ?_
      | refine A.pick_true rfl rfl rfl ?_ | refine A.pick_false rfl rfl rfl ?_ | refine A.pick_true rfl (by assumption) rfl ?_ | refine A.pick_false rfl (by assumption) rfl ?_
      | refine A.box rfl rfl rfl ?_ | refine A.alloc rfl rfl rfl ?_ | refine A.store rfl rfl rfl rfl rfl ?_ | refine A.build rfl rfl rfl rfl ?_ | refine A.buildSlice rfl rfl rfl rfl rfl rfl rfl ?_
      | refine A.eqi rfl rfl ?_ | refine A.nei rfl rfl ?_ | refine A.lss rfl rfl ?_ | refine A.leq rfl rfl ?_ | refine A.gtr rfl rfl ?_ | refine A.geq rfl rfl ?_ | refine A.eqb rfl rfl rfl rfl ?_ | refine A.neb rfl rfl rfl rfl ?_ | refine A.eqs rfl rfl ?_ | refine A.nes rfl rfl ?_ | refine A.lts rfl rfl ?_ | refine A.gts rfl rfl ?_
      | refine A.not rfl ?_ | refine A.extract rfl rfl ?_ | refine A.add64 rfl rfl rfl (by omega) ?_ | refine A.sub64 rfl rfl rfl (by omega) ?_
    exact Fin.ret1 rfl (Weak.refl _)

theorem gotsR (l : List Tbl) (b : Batch) (hf : Fine 1048576 l) (hb : b.keys.length ≤ 1048576) : PFn Try.prog 41 [Tbls.enc l, b.enc] (.slice ((gots l b).map Got.enc) .no) := by
  refine AFn.plain gots_closed (by simp [AV.closedL, Tbls.closed, Batch.closed]) (AFn.enter [4] Try.func41 rfl rfl rfl rfl rfl (by decide) ?_)
  have hfl := hf.len
  repeat' first
    | refine A.box_r rfl rfl ?_
    | refine HCode.seq ?_ | refine HCode.region rfl ?_ | refine HCode.region_draw Lay.mix rfl ?_ | refine HCode.block ?_ | refine HCode.scope ?_ | refine HCode.skip ?_ | refine HCode.label ?_ | refine HCode.exit ?_ | refine HCode.ret ?_
    | refine HCode.cond_true rfl ?_ | refine HCode.cond_false rfl ?_ | refine HCode.cond_yes rfl (by assumption) ?_ | refine HCode.cond_no rfl (by assumption) ?_ | (refine HCode.cond rfl ?_ ?_ <;> intro hc)
    | refine A.nil_seq ?_ | refine A.nil (fun _ => rfl) ?_ | refine A.dead rfl ?_ | refine A.yes rfl rfl ?_ | refine A.no rfl rfl ?_ | refine A.yes rfl (by assumption) ?_ | refine A.no rfl (by assumption) ?_ | (refine A.guard rfl ?_ ?_ <;> intro hc)
    | refine A.move rfl ?_ | refine A.assign rfl ?_ | refine A.load_b rfl rfl rfl rfl ?_ | refine A.load_r rfl rfl rfl ?_ | refine A.field_b rfl rfl rfl rfl rfl rfl ?_ | refine A.field_r rfl rfl rfl rfl rfl rfl ?_ | refine A.field rfl rfl rfl rfl rfl ?_
    | refine A.index_r rfl rfl rfl rfl rfl rfl (by assumption) rfl ?_ | refine A.len rfl rfl rfl (by first | rw [List.length_map] | rfl) ?_ | refine A.lens rfl rfl rfl rfl ?_
    | refine A.pick_true rfl rfl rfl ?_ | refine A.pick_false rfl rfl rfl ?_ | refine A.pick_true rfl (by assumption) rfl ?_ | refine A.pick_false rfl (by assumption) rfl ?_
    | refine A.box rfl rfl rfl ?_ | refine A.alloc rfl rfl rfl ?_ | refine A.store rfl rfl rfl rfl rfl ?_ | refine A.build rfl rfl rfl rfl ?_ | refine A.buildSlice rfl rfl rfl rfl rfl rfl rfl ?_
    | refine A.eqi rfl rfl ?_ | refine A.nei rfl rfl ?_ | refine A.lss rfl rfl ?_ | refine A.leq rfl rfl ?_ | refine A.gtr rfl rfl ?_ | refine A.geq rfl rfl ?_ | refine A.eqb rfl rfl rfl rfl ?_ | refine A.neb rfl rfl rfl rfl ?_ | refine A.eqs rfl rfl ?_ | refine A.nes rfl rfl ?_ | refine A.lts rfl rfl ?_ | refine A.gts rfl rfl ?_
    | refine A.not rfl ?_ | refine A.extract rfl rfl ?_ | refine A.add64 rfl rfl rfl (by omega) ?_ | refine A.sub64 rfl rfl rfl (by omega) ?_
    | fail
  change HCode _ _ _ _ _ _ _
  refine HCode.adopt 5 true 6 rfl rfl rfl rfl rfl rfl ?_
  refine HCode.loop (fun n s σ => ∃ k : Nat, n = b.keys.length - k ∧ k ≤ b.keys.length ∧ σ = ⟨[], [.len k]⟩ ∧ s = [(6, .int .i64 k), (5, .slice (((gots l b).take k).map Got.enc) (.own 0 6)), (3, .rptr b.enc), (0, Tbls.enc l)])
    (s0 := [(6, .int .i64 (0 : Nat)), (5, .slice (((gots l b).take 0).map Got.enc) (.own 0 6)), (3, .rptr b.enc), (0, Tbls.enc l)]) ⟨rfl, rfl, rfl, rfl, trivial⟩ ⟨0, rfl, Nat.zero_le _, rfl, rfl⟩ ?_
  rintro n s σ ⟨k, rfl, hk, rfl, rfl⟩
  have htl : (((gots l b).take k).map Got.enc).length = k := by simp [gots_length]; omega
  by_cases h1 : k < b.keys.length
  · have d1 : decide ((k : Int) < (b.keys.length : Int)) = true := by simp [h1]
    have x1 := map_get' (f := AV.str) h1
    have hfi := rFind l ⟨b.table, b.keys[k]⟩ (by omega) (fun t ht => by have := hf.rows t ht; omega)
    repeat' first
      | refine A.field_r rfl rfl rfl rfl ?_
      | refine HCode.seq ?_ | refine HCode.region rfl ?_ | refine HCode.region_draw Lay.mix rfl ?_ | refine HCode.block ?_ | refine HCode.scope ?_ | refine HCode.skip ?_ | refine HCode.label ?_ | refine HCode.exit ?_ | refine HCode.ret ?_
      | refine HCode.cond_true rfl ?_ | refine HCode.cond_false rfl ?_ | refine HCode.cond_yes rfl (by assumption) ?_ | refine HCode.cond_no rfl (by assumption) ?_ | (refine HCode.cond rfl ?_ ?_ <;> intro hc)
      | refine A.nil_seq ?_ | refine A.nil (fun _ => rfl) ?_ | refine A.dead rfl ?_ | refine A.yes rfl rfl ?_ | refine A.no rfl rfl ?_ | refine A.yes rfl (by assumption) ?_ | refine A.no rfl (by assumption) ?_ | (refine A.guard rfl ?_ ?_ <;> intro hc)
      | refine A.move rfl ?_ | refine A.assign rfl ?_ | refine A.load_b rfl rfl rfl rfl ?_ | refine A.load_r rfl rfl rfl ?_ | refine A.field_b rfl rfl rfl rfl rfl rfl ?_ | refine A.field_r rfl rfl rfl rfl rfl rfl ?_ | refine A.field rfl rfl rfl rfl rfl ?_
      | refine A.index_r rfl rfl rfl rfl rfl rfl (by assumption) rfl ?_ | refine A.len rfl rfl rfl (by first | rw [List.length_map] | rfl) ?_ | refine A.lens rfl rfl rfl rfl ?_
      | refine A.pick_true rfl rfl rfl ?_ | refine A.pick_false rfl rfl rfl ?_ | refine A.pick_true rfl (by assumption) rfl ?_ | refine A.pick_false rfl (by assumption) rfl ?_
      | refine A.box rfl rfl rfl ?_ | refine A.alloc rfl rfl rfl ?_ | refine A.store rfl rfl rfl rfl rfl ?_ | refine A.build rfl rfl rfl rfl ?_ | refine A.buildSlice rfl rfl rfl rfl rfl rfl rfl ?_
      | refine A.eqi rfl rfl ?_ | refine A.nei rfl rfl ?_ | refine A.lss rfl rfl ?_ | refine A.leq rfl rfl ?_ | refine A.gtr rfl rfl ?_ | refine A.geq rfl rfl ?_ | refine A.eqb rfl rfl rfl rfl ?_ | refine A.neb rfl rfl rfl rfl ?_ | refine A.eqs rfl rfl ?_ | refine A.nes rfl rfl ?_ | refine A.lts rfl rfl ?_ | refine A.gts rfl rfl ?_
      | refine A.not rfl ?_ | refine A.extract rfl rfl ?_ | refine A.add64 rfl rfl rfl (by omega) ?_ | refine A.sub64 rfl rfl rfl (by omega) ?_
      | refine A.call rfl hfi (WeakL.refl _) ?_ | refine A.append (n := k) rfl rfl rfl rfl rfl rfl rfl rfl htl rfl (by dsimp only [List.length_cons, List.length_nil]; omega) (by dsimp only [List.length_cons, List.length_nil]; omega) rfl ?_
    refine ⟨b.keys.length - (k + 1), by omega, [(6, .int .i64 ((k + 1 : Nat) : Int)), (5, .slice (((gots l b).take (k + 1)).map Got.enc) (.own 0 6)), (3, .rptr b.enc), (0, Tbls.enc l)],
      ⟨rfl, ?_, rfl, rfl, trivial⟩, by simp [-List.map_take, belowS, AV.low, Got.lowL, Tbls.enc, Tbl.lowL, AV.low_of_closed _ _ _ (Batch.closed b)], rfl, k + 1, rfl, by omega, rfl, rfl⟩
    rw [← take_enc' (f := Got.enc) (l := gots l b) (by rw [gots_length]; exact h1), gots_get h1]
    rfl
  · have d1 : decide ((k : Int) < (b.keys.length : Int)) = false := by simp; omega
    repeat' first
      | refine A.field_r rfl rfl rfl rfl ?_
      | refine HCode.seq ?_ | refine HCode.region rfl ?_ | refine HCode.region_draw Lay.mix rfl ?_ | refine HCode.block ?_ | refine HCode.scope ?_ | refine HCode.skip ?_ | refine HCode.label ?_ | refine HCode.exit ?_ | refine HCode.ret ?_
      | refine HCode.cond_true rfl ?_ | refine HCode.cond_false rfl ?_ | refine HCode.cond_yes rfl (by assumption) ?_ | refine HCode.cond_no rfl (by assumption) ?_ | (refine HCode.cond rfl ?_ ?_ <;> intro hc)
      | refine A.nil_seq ?_ | refine A.nil (fun _ => rfl) ?_ | refine A.dead rfl ?_ | refine A.yes rfl rfl ?_ | refine A.no rfl rfl ?_ | refine A.yes rfl (by assumption) ?_ | refine A.no rfl (by assumption) ?_ | (refine A.guard rfl ?_ ?_ <;> intro hc)
      | refine A.move rfl ?_ | refine A.assign rfl ?_ | refine A.load_b rfl rfl rfl rfl ?_ | refine A.load_r rfl rfl rfl ?_ | refine A.field_b rfl rfl rfl rfl rfl rfl ?_ | refine A.field_r rfl rfl rfl rfl rfl rfl ?_ | refine A.field rfl rfl rfl rfl rfl ?_
      | refine A.index_r rfl rfl rfl rfl rfl rfl (by assumption) rfl ?_ | refine A.len rfl rfl rfl (by first | rw [List.length_map] | rfl) ?_ | refine A.lens rfl rfl rfl rfl ?_
      | refine A.pick_true rfl rfl rfl ?_ | refine A.pick_false rfl rfl rfl ?_ | refine A.pick_true rfl (by assumption) rfl ?_ | refine A.pick_false rfl (by assumption) rfl ?_
      | refine A.box rfl rfl rfl ?_ | refine A.alloc rfl rfl rfl ?_ | refine A.store rfl rfl rfl rfl rfl ?_ | refine A.build rfl rfl rfl rfl ?_ | refine A.buildSlice rfl rfl rfl rfl rfl rfl rfl ?_
      | refine A.eqi rfl rfl ?_ | refine A.nei rfl rfl ?_ | refine A.lss rfl rfl ?_ | refine A.leq rfl rfl ?_ | refine A.gtr rfl rfl ?_ | refine A.geq rfl rfl ?_ | refine A.eqb rfl rfl rfl rfl ?_ | refine A.neb rfl rfl rfl rfl ?_ | refine A.eqs rfl rfl ?_ | refine A.nes rfl rfl ?_ | refine A.lts rfl rfl ?_ | refine A.gts rfl rfl ?_
      | refine A.not rfl ?_ | refine A.extract rfl rfl ?_ | refine A.add64 rfl rfl rfl (by omega) ?_ | refine A.sub64 rfl rfl rfl (by omega) ?_
      | fail
    refine Fin.ret1 rfl (Weak.no (WeakL.eq ?_))
    rw [List.take_of_length_le (by rw [gots_length]; omega)]

/-! Methods on nil. -/
theorem doN (c : Cmd) : PFn Try.prog 38 [.nilp, c.enc] (.tup [val0.enc, .int .i64 1]) := by
  refine AFn.plain rfl (by simp [AV.closedL, AV.closed, Cmd.closed]) (AFn.enterR [.cell 4 32, .tmp 5] Try.func38 rfl rfl rfl rfl rfl ?_)
  repeat' first
    | refine A.box_r rfl rfl ?_
    | refine HCode.seq ?_ | refine HCode.region rfl ?_ | refine HCode.region_draw Lay.mix rfl ?_ | refine HCode.block ?_ | refine HCode.scope ?_ | refine HCode.skip ?_ | refine HCode.label ?_ | refine HCode.exit ?_ | refine HCode.ret ?_
    | refine HCode.cond_true rfl ?_ | refine HCode.cond_false rfl ?_ | refine HCode.cond_yes rfl (by assumption) ?_ | refine HCode.cond_no rfl (by assumption) ?_ | (refine HCode.cond rfl ?_ ?_ <;> intro hc)
    | refine A.nil_seq ?_ | refine A.nil (fun _ => rfl) ?_ | refine A.dead rfl ?_ | refine A.yes rfl rfl ?_ | refine A.no rfl rfl ?_ | refine A.yes rfl (by assumption) ?_ | refine A.no rfl (by assumption) ?_ | (refine A.guard rfl ?_ ?_ <;> intro hc)
    | refine A.move rfl ?_ | refine A.assign rfl ?_ | refine A.load_b rfl rfl rfl rfl ?_ | refine A.load_r rfl rfl rfl ?_ | refine A.field_b rfl rfl rfl rfl rfl rfl ?_ | refine A.field_r rfl rfl rfl rfl rfl rfl ?_ | refine A.field rfl rfl rfl rfl rfl ?_
    | refine A.index_r rfl rfl rfl rfl rfl rfl (by assumption) rfl ?_ | refine A.len rfl rfl rfl (by first | rw [List.length_map] | rfl) ?_ | refine A.lens rfl rfl rfl rfl ?_
    | refine A.pick_true rfl rfl rfl ?_ | refine A.pick_false rfl rfl rfl ?_ | refine A.pick_true rfl (by assumption) rfl ?_ | refine A.pick_false rfl (by assumption) rfl ?_
    | refine A.box rfl rfl rfl ?_ | refine A.alloc rfl rfl rfl ?_ | refine A.store rfl rfl rfl rfl rfl ?_ | refine A.build rfl rfl rfl rfl ?_ | refine A.buildSlice rfl rfl rfl rfl rfl rfl rfl ?_
    | refine A.eqi rfl rfl ?_ | refine A.nei rfl rfl ?_ | refine A.lss rfl rfl ?_ | refine A.leq rfl rfl ?_ | refine A.gtr rfl rfl ?_ | refine A.geq rfl rfl ?_ | refine A.eqb rfl rfl rfl rfl ?_ | refine A.neb rfl rfl rfl rfl ?_ | refine A.eqs rfl rfl ?_ | refine A.nes rfl rfl ?_ | refine A.lts rfl rfl ?_ | refine A.gts rfl rfl ?_
    | refine A.not rfl ?_ | refine A.extract rfl rfl ?_ | refine A.add64 rfl rfl rfl (by omega) ?_ | refine A.sub64 rfl rfl rfl (by omega) ?_
    | refine A.peq0 rfl rfl rfl ?_
  exact FinR.ret1 rfl (Weak.tup (WeakL.cons weak_flatV (WeakL.refl _)))
theorem getN (b : Batch) : PFn Try.prog 39 [.nilp, b.enc] (.slice [] .no) := by
  refine AFn.plain rfl (by simp [AV.closedL, AV.closed, Batch.closed]) (AFn.enter [4] Try.func39 rfl rfl rfl rfl rfl (by decide) ?_)
  repeat' first
    | refine A.box_r rfl rfl ?_
    | refine HCode.seq ?_ | refine HCode.region rfl ?_ | refine HCode.region_draw Lay.mix rfl ?_ | refine HCode.block ?_ | refine HCode.scope ?_ | refine HCode.skip ?_ | refine HCode.label ?_ | refine HCode.exit ?_ | refine HCode.ret ?_
    | refine HCode.cond_true rfl ?_ | refine HCode.cond_false rfl ?_ | refine HCode.cond_yes rfl (by assumption) ?_ | refine HCode.cond_no rfl (by assumption) ?_ | (refine HCode.cond rfl ?_ ?_ <;> intro hc)
    | refine A.nil_seq ?_ | refine A.nil (fun _ => rfl) ?_ | refine A.dead rfl ?_ | refine A.yes rfl rfl ?_ | refine A.no rfl rfl ?_ | refine A.yes rfl (by assumption) ?_ | refine A.no rfl (by assumption) ?_ | (refine A.guard rfl ?_ ?_ <;> intro hc)
    | refine A.move rfl ?_ | refine A.assign rfl ?_ | refine A.load_b rfl rfl rfl rfl ?_ | refine A.load_r rfl rfl rfl ?_ | refine A.field_b rfl rfl rfl rfl rfl rfl ?_ | refine A.field_r rfl rfl rfl rfl rfl rfl ?_ | refine A.field rfl rfl rfl rfl rfl ?_
    | refine A.index_r rfl rfl rfl rfl rfl rfl (by assumption) rfl ?_ | refine A.len rfl rfl rfl (by first | rw [List.length_map] | rfl) ?_ | refine A.lens rfl rfl rfl rfl ?_
    | refine A.pick_true rfl rfl rfl ?_ | refine A.pick_false rfl rfl rfl ?_ | refine A.pick_true rfl (by assumption) rfl ?_ | refine A.pick_false rfl (by assumption) rfl ?_
    | refine A.box rfl rfl rfl ?_ | refine A.alloc rfl rfl rfl ?_ | refine A.store rfl rfl rfl rfl rfl ?_ | refine A.build rfl rfl rfl rfl ?_ | refine A.buildSlice rfl rfl rfl rfl rfl rfl rfl ?_
    | refine A.eqi rfl rfl ?_ | refine A.nei rfl rfl ?_ | refine A.lss rfl rfl ?_ | refine A.leq rfl rfl ?_ | refine A.gtr rfl rfl ?_ | refine A.geq rfl rfl ?_ | refine A.eqb rfl rfl rfl rfl ?_ | refine A.neb rfl rfl rfl rfl ?_ | refine A.eqs rfl rfl ?_ | refine A.nes rfl rfl ?_ | refine A.lts rfl rfl ?_ | refine A.gts rfl rfl ?_
    | refine A.not rfl ?_ | refine A.extract rfl rfl ?_ | refine A.add64 rfl rfl rfl (by omega) ?_ | refine A.sub64 rfl rfl rfl (by omega) ?_
    | refine A.peq0 rfl rfl rfl ?_
  exact Fin.ret1 rfl (Weak.no (WeakL.refl _))
theorem tablesN : PFn Try.prog 42 [.nilp] (.slice [] .no) := by
  refine AFn.plain rfl rfl (AFn.enter [2] Try.func42 rfl rfl rfl rfl rfl (by decide) ?_)
  repeat' first
    | refine HCode.seq ?_ | refine HCode.region rfl ?_ | refine HCode.region_draw Lay.mix rfl ?_ | refine HCode.block ?_ | refine HCode.scope ?_ | refine HCode.skip ?_ | refine HCode.label ?_ | refine HCode.exit ?_ | refine HCode.ret ?_
    | refine HCode.cond_true rfl ?_ | refine HCode.cond_false rfl ?_ | refine HCode.cond_yes rfl (by assumption) ?_ | refine HCode.cond_no rfl (by assumption) ?_ | (refine HCode.cond rfl ?_ ?_ <;> intro hc)
    | refine A.nil_seq ?_ | refine A.nil (fun _ => rfl) ?_ | refine A.dead rfl ?_ | refine A.yes rfl rfl ?_ | refine A.no rfl rfl ?_ | refine A.yes rfl (by assumption) ?_ | refine A.no rfl (by assumption) ?_ | (refine A.guard rfl ?_ ?_ <;> intro hc)
    | refine A.move rfl ?_ | refine A.assign rfl ?_ | refine A.load_b rfl rfl rfl rfl ?_ | refine A.load_r rfl rfl rfl ?_ | refine A.field_b rfl rfl rfl rfl rfl rfl ?_ | refine A.field_r rfl rfl rfl rfl rfl rfl ?_ | refine A.field rfl rfl rfl rfl rfl ?_
    | refine A.index_r rfl rfl rfl rfl rfl rfl (by assumption) rfl ?_ | refine A.len rfl rfl rfl (by first | rw [List.length_map] | rfl) ?_ | refine A.lens rfl rfl rfl rfl ?_
    | refine A.pick_true rfl rfl rfl ?_ | refine A.pick_false rfl rfl rfl ?_ | refine A.pick_true rfl (by assumption) rfl ?_ | refine A.pick_false rfl (by assumption) rfl ?_
    | refine A.box rfl rfl rfl ?_ | refine A.alloc rfl rfl rfl ?_ | refine A.store rfl rfl rfl rfl rfl ?_ | refine A.build rfl rfl rfl rfl ?_ | refine A.buildSlice rfl rfl rfl rfl rfl rfl rfl ?_
    | refine A.eqi rfl rfl ?_ | refine A.nei rfl rfl ?_ | refine A.lss rfl rfl ?_ | refine A.leq rfl rfl ?_ | refine A.gtr rfl rfl ?_ | refine A.geq rfl rfl ?_ | refine A.eqb rfl rfl rfl rfl ?_ | refine A.neb rfl rfl rfl rfl ?_ | refine A.eqs rfl rfl ?_ | refine A.nes rfl rfl ?_ | refine A.lts rfl rfl ?_ | refine A.gts rfl rfl ?_
    | refine A.not rfl ?_ | refine A.extract rfl rfl ?_ | refine A.add64 rfl rfl rfl (by omega) ?_ | refine A.sub64 rfl rfl rfl (by omega) ?_
    | refine A.peq0 rfl rfl rfl ?_
  exact Fin.ret1 rfl (Weak.no (WeakL.refl _))
theorem logN : PFn Try.prog 43 [.nilp] (.slice [] .no) := by
  refine AFn.plain rfl rfl (AFn.enter [2] Try.func43 rfl rfl rfl rfl rfl (by decide) ?_)
  repeat' first
    | refine HCode.seq ?_ | refine HCode.region rfl ?_ | refine HCode.region_draw Lay.mix rfl ?_ | refine HCode.block ?_ | refine HCode.scope ?_ | refine HCode.skip ?_ | refine HCode.label ?_ | refine HCode.exit ?_ | refine HCode.ret ?_
    | refine HCode.cond_true rfl ?_ | refine HCode.cond_false rfl ?_ | refine HCode.cond_yes rfl (by assumption) ?_ | refine HCode.cond_no rfl (by assumption) ?_ | (refine HCode.cond rfl ?_ ?_ <;> intro hc)
    | refine A.nil_seq ?_ | refine A.nil (fun _ => rfl) ?_ | refine A.dead rfl ?_ | refine A.yes rfl rfl ?_ | refine A.no rfl rfl ?_ | refine A.yes rfl (by assumption) ?_ | refine A.no rfl (by assumption) ?_ | (refine A.guard rfl ?_ ?_ <;> intro hc)
    | refine A.move rfl ?_ | refine A.assign rfl ?_ | refine A.load_b rfl rfl rfl rfl ?_ | refine A.load_r rfl rfl rfl ?_ | refine A.field_b rfl rfl rfl rfl rfl rfl ?_ | refine A.field_r rfl rfl rfl rfl rfl rfl ?_ | refine A.field rfl rfl rfl rfl rfl ?_
    | refine A.index_r rfl rfl rfl rfl rfl rfl (by assumption) rfl ?_ | refine A.len rfl rfl rfl (by first | rw [List.length_map] | rfl) ?_ | refine A.lens rfl rfl rfl rfl ?_
    | refine A.pick_true rfl rfl rfl ?_ | refine A.pick_false rfl rfl rfl ?_ | refine A.pick_true rfl (by assumption) rfl ?_ | refine A.pick_false rfl (by assumption) rfl ?_
    | refine A.box rfl rfl rfl ?_ | refine A.alloc rfl rfl rfl ?_ | refine A.store rfl rfl rfl rfl rfl ?_ | refine A.build rfl rfl rfl rfl ?_ | refine A.buildSlice rfl rfl rfl rfl rfl rfl rfl ?_
    | refine A.eqi rfl rfl ?_ | refine A.nei rfl rfl ?_ | refine A.lss rfl rfl ?_ | refine A.leq rfl rfl ?_ | refine A.gtr rfl rfl ?_ | refine A.geq rfl rfl ?_ | refine A.eqb rfl rfl rfl rfl ?_ | refine A.neb rfl rfl rfl rfl ?_ | refine A.eqs rfl rfl ?_ | refine A.nes rfl rfl ?_ | refine A.lts rfl rfl ?_ | refine A.gts rfl rfl ?_
    | refine A.not rfl ?_ | refine A.extract rfl rfl ?_ | refine A.add64 rfl rfl rfl (by omega) ?_ | refine A.sub64 rfl rfl rfl (by omega) ?_
    | refine A.peq0 rfl rfl rfl ?_
  exact Fin.ret1 rfl (Weak.no (WeakL.refl _))

/-! Of tables that are written later. -/
theorem twinV (l : List Tbl) (hf : Fine 1048576 l) :
    AFn Try.prog 50 [.vec 0 2 l.length 0 l.length] ⟨[], [.vec (l.map Tbl.enc)]⟩ (fun e σ => e = .ret (Tbls.enc l) ∧ σ = ⟨[], [.vec (l.map Tbl.enc)]⟩) := by
  refine AFn.meth (nB := 0) (mT := 1) (AFn.enter [2] Try.func50 rfl rfl rfl rfl rfl (by decide) ?_) (by simp) (by simp) (AV.low_of_closed _ _ _ (Tbls.closed l)) rfl (by simp [belowT, Tok.low, Tbl.lowL])
  have hl := hf.len
  have hln : (l.map Tbl.enc).length = l.length := List.length_map ..
  repeat' first
    | refine HCode.seq ?_ | refine HCode.region rfl ?_ | refine HCode.region_draw Lay.mix rfl ?_ | refine HCode.block ?_ | refine HCode.scope ?_ | refine HCode.skip ?_ | refine HCode.label ?_ | refine HCode.exit ?_ | refine HCode.ret ?_
    | refine HCode.cond_true rfl ?_ | refine HCode.cond_false rfl ?_ | refine HCode.cond_yes rfl (by assumption) ?_ | refine HCode.cond_no rfl (by assumption) ?_ | (refine HCode.cond rfl ?_ ?_ <;> intro hc)
    | refine A.nil_seq ?_ | refine A.nil (fun _ => rfl) ?_ | refine A.dead rfl ?_ | refine A.yes rfl rfl ?_ | refine A.no rfl rfl ?_ | refine A.yes rfl (by assumption) ?_ | refine A.no rfl (by assumption) ?_ | (refine A.guard rfl ?_ ?_ <;> intro hc)
    | refine A.move rfl ?_ | refine A.assign rfl ?_ | refine A.load_b rfl rfl rfl rfl ?_ | refine A.load_r rfl rfl rfl ?_ | refine A.field_b rfl rfl rfl rfl rfl rfl ?_ | refine A.field_r rfl rfl rfl rfl rfl rfl ?_ | refine A.field rfl rfl rfl rfl rfl ?_
    | refine A.index_r rfl rfl rfl rfl rfl rfl (by assumption) rfl ?_ | refine A.len rfl rfl rfl (by first | rw [List.length_map] | rfl) ?_ | refine A.lens rfl rfl rfl rfl ?_
    | refine A.pick_true rfl rfl rfl ?_ | refine A.pick_false rfl rfl rfl ?_ | refine A.pick_true rfl (by assumption) rfl ?_ | refine A.pick_false rfl (by assumption) rfl ?_
    | refine A.box rfl rfl rfl ?_ | refine A.alloc rfl rfl rfl ?_ | refine A.store rfl rfl rfl rfl rfl ?_ | refine A.build rfl rfl rfl rfl ?_ | refine A.buildSlice rfl rfl rfl rfl rfl rfl rfl ?_
    | refine A.eqi rfl rfl ?_ | refine A.nei rfl rfl ?_ | refine A.lss rfl rfl ?_ | refine A.leq rfl rfl ?_ | refine A.gtr rfl rfl ?_ | refine A.geq rfl rfl ?_ | refine A.eqb rfl rfl rfl rfl ?_ | refine A.neb rfl rfl rfl rfl ?_ | refine A.eqs rfl rfl ?_ | refine A.nes rfl rfl ?_ | refine A.lts rfl rfl ?_ | refine A.gts rfl rfl ?_
    | refine A.not rfl ?_ | refine A.extract rfl rfl ?_ | refine A.add64 rfl rfl rfl (by omega) ?_ | refine A.sub64 rfl rfl rfl (by omega) ?_
    | refine A.vindex rfl rfl rfl rfl rfl rfl rfl (by assumption) (Nat.zero_add _) ?_ | refine A.vfield rfl rfl rfl rfl rfl rfl ?_ | refine A.vload rfl rfl rfl (by assumption) (by assumption) rfl ?_ | refine A.vlen rfl rfl rfl rfl ?_
  change HCode _ _ _ _ _ _ _
  refine HCode.adopt 3 true 2 rfl rfl rfl rfl rfl rfl ?_
  refine HCode.loop (fun n s σ => ∃ k : Nat, n = l.length - k ∧ k ≤ l.length ∧ σ = ⟨[], [.vec (l.map Tbl.enc), .len k]⟩ ∧ s = [(11, .int .i64 k), (10, .int .i64 l.length), (9, .vec 0 2 l.length 0 l.length), (3, .slice ((l.take k).map Tbl.enc) (.own 1 2))])
    (s0 := [(11, .int .i64 (0 : Nat)), (10, .int .i64 l.length), (9, .vec 0 2 l.length 0 l.length), (3, .slice ((l.take 0).map Tbl.enc) (.own 1 2))]) ⟨rfl, rfl, rfl, rfl, trivial⟩ ⟨0, rfl, Nat.zero_le _, rfl, rfl⟩ ?_
  rintro n s σ ⟨k, rfl, hk, rfl, rfl⟩
  have htl : ((l.take k).map Tbl.enc).length = k := by simp; omega
  by_cases h1 : k < l.length
  · have d1 : decide ((k : Int) < (l.length : Int)) = true := by simp [h1]
    have x1 := map_get' (f := Tbl.enc) h1
    have h1' : 0 + k < l.length := by omega
    have hrl := hf.rows _ (List.getElem_mem h1)
    repeat' first
      | refine HCode.seq ?_ | refine HCode.region rfl ?_ | refine HCode.region_draw Lay.mix rfl ?_ | refine HCode.block ?_ | refine HCode.scope ?_ | refine HCode.skip ?_ | refine HCode.label ?_ | refine HCode.exit ?_ | refine HCode.ret ?_
      | refine HCode.cond_true rfl ?_ | refine HCode.cond_false rfl ?_ | refine HCode.cond_yes rfl (by assumption) ?_ | refine HCode.cond_no rfl (by assumption) ?_ | (refine HCode.cond rfl ?_ ?_ <;> intro hc)
      | refine A.nil_seq ?_ | refine A.nil (fun _ => rfl) ?_ | refine A.dead rfl ?_ | refine A.yes rfl rfl ?_ | refine A.no rfl rfl ?_ | refine A.yes rfl (by assumption) ?_ | refine A.no rfl (by assumption) ?_ | (refine A.guard rfl ?_ ?_ <;> intro hc)
      | refine A.move rfl ?_ | refine A.assign rfl ?_ | refine A.load_b rfl rfl rfl rfl ?_ | refine A.load_r rfl rfl rfl ?_ | refine A.field_b rfl rfl rfl rfl rfl rfl ?_ | refine A.field_r rfl rfl rfl rfl rfl rfl ?_ | refine A.field rfl rfl rfl rfl rfl ?_
      | refine A.index_r rfl rfl rfl rfl rfl rfl (by assumption) rfl ?_ | refine A.len rfl rfl rfl (by first | rw [List.length_map] | rfl) ?_ | refine A.lens rfl rfl rfl rfl ?_
      | refine A.pick_true rfl rfl rfl ?_ | refine A.pick_false rfl rfl rfl ?_ | refine A.pick_true rfl (by assumption) rfl ?_ | refine A.pick_false rfl (by assumption) rfl ?_
      | refine A.box rfl rfl rfl ?_ | refine A.alloc rfl rfl rfl ?_ | refine A.store rfl rfl rfl rfl rfl ?_ | refine A.build rfl rfl rfl rfl ?_ | refine A.buildSlice rfl rfl rfl rfl rfl rfl rfl ?_
      | refine A.eqi rfl rfl ?_ | refine A.nei rfl rfl ?_ | refine A.lss rfl rfl ?_ | refine A.leq rfl rfl ?_ | refine A.gtr rfl rfl ?_ | refine A.geq rfl rfl ?_ | refine A.eqb rfl rfl rfl rfl ?_ | refine A.neb rfl rfl rfl rfl ?_ | refine A.eqs rfl rfl ?_ | refine A.nes rfl rfl ?_ | refine A.lts rfl rfl ?_ | refine A.gts rfl rfl ?_
      | refine A.not rfl ?_ | refine A.extract rfl rfl ?_ | refine A.add64 rfl rfl rfl (by omega) ?_ | refine A.sub64 rfl rfl rfl (by omega) ?_
      | refine A.vindex rfl rfl rfl rfl rfl rfl rfl (by assumption) (Nat.zero_add _) ?_ | refine A.vfield rfl rfl rfl rfl rfl rfl ?_ | refine A.vload rfl rfl rfl (by assumption) (by assumption) rfl ?_ | refine A.vlen rfl rfl rfl rfl ?_
    change HCode _ _ _ _ _ _ _
    refine HCode.adoptB 0 1 true 4 rfl rfl rfl rfl rfl rfl rfl rfl ?_
    refine HCode.loop (fun n s σ => ∃ j : Nat, n = l[k].rows.length - j ∧ j ≤ l[k].rows.length ∧ σ = ⟨[.cells [.str l[k].name, .slice ((l[k].rows.take j).map Row.enc) (.own 2 4)]], [.vec (l.map Tbl.enc), .len k, .len j]⟩ ∧
      s = [(20, .int .i64 j), (19, .int .i64 l[k].rows.length), (18, .slice (l[k].rows.map Row.enc) .no), (11, .int .i64 k), (10, .int .i64 l.length), (9, .vec 0 2 l.length 0 l.length), (3, .slice ((l.take k).map Tbl.enc) (.own 1 2)), (5, .ptr 0 0)])
      (s0 := [(20, .int .i64 (0 : Nat)), (19, .int .i64 l[k].rows.length), (18, .slice (l[k].rows.map Row.enc) .no), (11, .int .i64 k), (10, .int .i64 l.length), (9, .vec 0 2 l.length 0 l.length), (3, .slice ((l.take k).map Tbl.enc) (.own 1 2)), (5, .ptr 0 0)])
      ⟨rfl, rfl, rfl, rfl, rfl, rfl, rfl, rfl, trivial⟩ ⟨0, rfl, Nat.zero_le _, rfl, rfl⟩ ?_
    rintro n s σ ⟨j, rfl, hj, rfl, rfl⟩
    have hjl : ((l[k].rows.take j).map Row.enc).length = j := by simp; omega
    by_cases h2 : j < l[k].rows.length
    · have d2 : decide ((j : Int) < (l[k].rows.length : Int)) = true := by simp [h2]
      have x2 := map_get' (f := Row.enc) h2
      have ht := twin l[k].rows[j] (hf.cols _ (List.getElem_mem h1) _ (List.getElem_mem h2))
      repeat' first
        | refine HCode.seq ?_ | refine HCode.region rfl ?_ | refine HCode.region_draw Lay.mix rfl ?_ | refine HCode.block ?_ | refine HCode.scope ?_ | refine HCode.skip ?_ | refine HCode.label ?_ | refine HCode.exit ?_ | refine HCode.ret ?_
        | refine HCode.cond_true rfl ?_ | refine HCode.cond_false rfl ?_ | refine HCode.cond_yes rfl (by assumption) ?_ | refine HCode.cond_no rfl (by assumption) ?_ | (refine HCode.cond rfl ?_ ?_ <;> intro hc)
        | refine A.nil_seq ?_ | refine A.nil (fun _ => rfl) ?_ | refine A.dead rfl ?_ | refine A.yes rfl rfl ?_ | refine A.no rfl rfl ?_ | refine A.yes rfl (by assumption) ?_ | refine A.no rfl (by assumption) ?_ | (refine A.guard rfl ?_ ?_ <;> intro hc)
        | refine A.move rfl ?_ | refine A.assign rfl ?_ | refine A.load_b rfl rfl rfl rfl ?_ | refine A.load_r rfl rfl rfl ?_ | refine A.field_b rfl rfl rfl rfl rfl rfl ?_ | refine A.field_r rfl rfl rfl rfl rfl rfl ?_ | refine A.field rfl rfl rfl rfl rfl ?_
        | refine A.index_r rfl rfl rfl rfl rfl rfl (by assumption) rfl ?_ | refine A.len rfl rfl rfl (by first | rw [List.length_map] | rfl) ?_ | refine A.lens rfl rfl rfl rfl ?_
        | refine A.pick_true rfl rfl rfl ?_ | refine A.pick_false rfl rfl rfl ?_ | refine A.pick_true rfl (by assumption) rfl ?_ | refine A.pick_false rfl (by assumption) rfl ?_
        | refine A.box rfl rfl rfl ?_ | refine A.alloc rfl rfl rfl ?_ | refine A.store rfl rfl rfl rfl rfl ?_ | refine A.build rfl rfl rfl rfl ?_ | refine A.buildSlice rfl rfl rfl rfl rfl rfl rfl ?_
        | refine A.eqi rfl rfl ?_ | refine A.nei rfl rfl ?_ | refine A.lss rfl rfl ?_ | refine A.leq rfl rfl ?_ | refine A.gtr rfl rfl ?_ | refine A.geq rfl rfl ?_ | refine A.eqb rfl rfl rfl rfl ?_ | refine A.neb rfl rfl rfl rfl ?_ | refine A.eqs rfl rfl ?_ | refine A.nes rfl rfl ?_ | refine A.lts rfl rfl ?_ | refine A.gts rfl rfl ?_
        | refine A.not rfl ?_ | refine A.extract rfl rfl ?_ | refine A.add64 rfl rfl rfl (by omega) ?_ | refine A.sub64 rfl rfl rfl (by omega) ?_
        | refine A.call rfl ht (WeakL.refl _) ?_ | refine A.append (n := j) rfl rfl rfl rfl rfl rfl rfl rfl hjl rfl (by dsimp only [List.length_cons, List.length_nil]; omega) (by dsimp only [List.length_cons, List.length_nil]; omega) rfl ?_
      refine ⟨l[k].rows.length - (j + 1), by omega, [(20, .int .i64 ((j + 1 : Nat) : Int)), (19, .int .i64 l[k].rows.length), (18, .slice (l[k].rows.map Row.enc) .no), (11, .int .i64 k), (10, .int .i64 l.length), (9, .vec 0 2 l.length 0 l.length), (3, .slice ((l.take k).map Tbl.enc) (.own 1 2)), (5, .ptr 0 0)],
        ⟨rfl, rfl, rfl, rfl, rfl, rfl, rfl, rfl, trivial⟩, by simp [-List.map_take, belowS, AV.low, Row.lowL, Tbl.lowL], ?_, j + 1, rfl, by omega, ?_, rfl⟩
      · have hp4 := Row.lowL 1 3 (l[k].rows.take j)
        simp [-List.map_take, belowB, belowT, Ob.low, Tok.low, AV.lowL, AV.low, lowL_app, hp4, Mem.lowL, Row.lowL, Tbl.lowL]
      · rw [← take_enc' h2]; rfl
    · have d2 : decide ((j : Int) < (l[k].rows.length : Int)) = false := by simp; omega
      have hjn : j = l[k].rows.length := by omega
      subst hjn
      have hcan : (l[k].rows.take l[k].rows.length).map Row.enc = l[k].rows.map Row.enc := by rw [List.take_length]
      repeat' first
        | refine HCode.turnB 0 1 rfl rfl (Turn.weak (x := .slice ((l[k].rows.take l[k].rows.length).map Row.enc) (.own 2 4)) (y := .slice (l[k].rows.map Row.enc) .no) (Weak.no (WeakL.eq hcan))) rfl ?_
        | refine HCode.seq ?_ | refine HCode.region rfl ?_ | refine HCode.region_draw Lay.mix rfl ?_ | refine HCode.block ?_ | refine HCode.scope ?_ | refine HCode.skip ?_ | refine HCode.label ?_ | refine HCode.exit ?_ | refine HCode.ret ?_
        | refine HCode.cond_true rfl ?_ | refine HCode.cond_false rfl ?_ | refine HCode.cond_yes rfl (by assumption) ?_ | refine HCode.cond_no rfl (by assumption) ?_ | (refine HCode.cond rfl ?_ ?_ <;> intro hc)
        | refine A.nil_seq ?_ | refine A.nil (fun _ => rfl) ?_ | refine A.dead rfl ?_ | refine A.yes rfl rfl ?_ | refine A.no rfl rfl ?_ | refine A.yes rfl (by assumption) ?_ | refine A.no rfl (by assumption) ?_ | (refine A.guard rfl ?_ ?_ <;> intro hc)
        | refine A.move rfl ?_ | refine A.assign rfl ?_ | refine A.load_b rfl rfl rfl rfl ?_ | refine A.load_r rfl rfl rfl ?_ | refine A.field_b rfl rfl rfl rfl rfl rfl ?_ | refine A.field_r rfl rfl rfl rfl rfl rfl ?_ | refine A.field rfl rfl rfl rfl rfl ?_
        | refine A.index_r rfl rfl rfl rfl rfl rfl (by assumption) rfl ?_ | refine A.len rfl rfl rfl (by first | rw [List.length_map] | rfl) ?_ | refine A.lens rfl rfl rfl rfl ?_
        | refine A.pick_true rfl rfl rfl ?_ | refine A.pick_false rfl rfl rfl ?_ | refine A.pick_true rfl (by assumption) rfl ?_ | refine A.pick_false rfl (by assumption) rfl ?_
        | refine A.box rfl rfl rfl ?_ | refine A.alloc rfl rfl rfl ?_ | refine A.store rfl rfl rfl rfl rfl ?_ | refine A.build rfl rfl rfl rfl ?_ | refine A.buildSlice rfl rfl rfl rfl rfl rfl rfl ?_
        | refine A.eqi rfl rfl ?_ | refine A.nei rfl rfl ?_ | refine A.lss rfl rfl ?_ | refine A.leq rfl rfl ?_ | refine A.gtr rfl rfl ?_ | refine A.geq rfl rfl ?_ | refine A.eqb rfl rfl rfl rfl ?_ | refine A.neb rfl rfl rfl rfl ?_ | refine A.eqs rfl rfl ?_ | refine A.nes rfl rfl ?_ | refine A.lts rfl rfl ?_ | refine A.gts rfl rfl ?_
        | refine A.not rfl ?_ | refine A.extract rfl rfl ?_ | refine A.add64 rfl rfl rfl (by omega) ?_ | refine A.sub64 rfl rfl rfl (by omega) ?_
        | refine A.append (n := k) rfl rfl rfl rfl rfl rfl rfl rfl htl rfl (by dsimp only [List.length_cons, List.length_nil]; omega) (by dsimp only [List.length_cons, List.length_nil]; omega) rfl ?_
      refine ⟨l.length - (k + 1), by omega, [(11, .int .i64 ((k + 1 : Nat) : Int)), (10, .int .i64 l.length), (9, .vec 0 2 l.length 0 l.length), (3, .slice ((l.take (k + 1)).map Tbl.enc) (.own 1 2))],
        ⟨rfl, rfl, rfl, ?_, trivial⟩, by simp [-List.map_take, belowS, AV.low, Tbl.lowL], by simp [belowB, belowT, Tok.low, Tbl.lowL], k + 1, rfl, by omega, rfl, rfl⟩
      rw [← take_enc' h1]; rfl
  · have d1 : decide ((k : Int) < (l.length : Int)) = false := by simp; omega
    repeat' first
      | refine HCode.seq ?_ | refine HCode.region rfl ?_ | refine HCode.region_draw Lay.mix rfl ?_ | refine HCode.block ?_ | refine HCode.scope ?_ | refine HCode.skip ?_ | refine HCode.label ?_ | refine HCode.exit ?_ | refine HCode.ret ?_
      | refine HCode.cond_true rfl ?_ | refine HCode.cond_false rfl ?_ | refine HCode.cond_yes rfl (by assumption) ?_ | refine HCode.cond_no rfl (by assumption) ?_ | (refine HCode.cond rfl ?_ ?_ <;> intro hc)
      | refine A.nil_seq ?_ | refine A.nil (fun _ => rfl) ?_ | refine A.dead rfl ?_ | refine A.yes rfl rfl ?_ | refine A.no rfl rfl ?_ | refine A.yes rfl (by assumption) ?_ | refine A.no rfl (by assumption) ?_ | (refine A.guard rfl ?_ ?_ <;> intro hc)
      | refine A.move rfl ?_ | refine A.assign rfl ?_ | refine A.load_b rfl rfl rfl rfl ?_ | refine A.load_r rfl rfl rfl ?_ | refine A.field_b rfl rfl rfl rfl rfl rfl ?_ | refine A.field_r rfl rfl rfl rfl rfl rfl ?_ | refine A.field rfl rfl rfl rfl rfl ?_
      | refine A.index_r rfl rfl rfl rfl rfl rfl (by assumption) rfl ?_ | refine A.len rfl rfl rfl (by first | rw [List.length_map] | rfl) ?_ | refine A.lens rfl rfl rfl rfl ?_
      | refine A.pick_true rfl rfl rfl ?_ | refine A.pick_false rfl rfl rfl ?_ | refine A.pick_true rfl (by assumption) rfl ?_ | refine A.pick_false rfl (by assumption) rfl ?_
      | refine A.box rfl rfl rfl ?_ | refine A.alloc rfl rfl rfl ?_ | refine A.store rfl rfl rfl rfl rfl ?_ | refine A.build rfl rfl rfl rfl ?_ | refine A.buildSlice rfl rfl rfl rfl rfl rfl rfl ?_
      | refine A.eqi rfl rfl ?_ | refine A.nei rfl rfl ?_ | refine A.lss rfl rfl ?_ | refine A.leq rfl rfl ?_ | refine A.gtr rfl rfl ?_ | refine A.geq rfl rfl ?_ | refine A.eqb rfl rfl rfl rfl ?_ | refine A.neb rfl rfl rfl rfl ?_ | refine A.eqs rfl rfl ?_ | refine A.nes rfl rfl ?_ | refine A.lts rfl rfl ?_ | refine A.gts rfl rfl ?_
      | refine A.not rfl ?_ | refine A.extract rfl rfl ?_ | refine A.add64 rfl rfl rfl (by omega) ?_ | refine A.sub64 rfl rfl rfl (by omega) ?_
    refine ⟨_, _, rfl, Turn.weak (Weak.no (WeakL.eq ?_)), rfl, by simp⟩
    rw [List.take_of_length_le (by omega)]
theorem newV (l : List Tbl) (hf : Fine 1048576 l) : AFn Try.prog 37 [.vec 0 2 l.length 0 l.length] ⟨[], [.vec (l.map Tbl.enc)]⟩ (fun e σ => e = .ret (.ptr 0 0) ∧ σ = ⟨[.cells [Tbls.enc l, .slice [] (.own 1 7)]], [.vec (l.map Tbl.enc), .len 0]⟩) := by
  refine AFn.meth (nB := 1) (mT := 2) (AFn.enter [2] Try.func37 rfl rfl rfl rfl rfl (by decide) ?_) (by simp) (by simp) rfl (by simp [belowB, Ob.low, AV.lowL, AV.low, Tbls.enc, Tbl.lowL]) (by simp [belowT, Tok.low, Tbl.lowL])
  have ht := twinV l hf
  have hren : (Tbls.enc l).ren (emb 0 []) (emb 1 [0]) = Tbls.enc l := AV.ren_closed _ _ _ (Tbls.closed l)
  repeat' first
    | refine HCode.adoptB 0 1 true 7 rfl rfl rfl rfl rfl rfl rfl rfl ?_
    | refine HCode.seq ?_ | refine HCode.region rfl ?_ | refine HCode.region_draw Lay.mix rfl ?_ | refine HCode.block ?_ | refine HCode.scope ?_ | refine HCode.skip ?_ | refine HCode.label ?_ | refine HCode.exit ?_ | refine HCode.ret ?_
    | refine HCode.cond_true rfl ?_ | refine HCode.cond_false rfl ?_ | refine HCode.cond_yes rfl (by assumption) ?_ | refine HCode.cond_no rfl (by assumption) ?_ | (refine HCode.cond rfl ?_ ?_ <;> intro hc)
    | refine A.nil_seq ?_ | refine A.nil (fun _ => rfl) ?_ | refine A.dead rfl ?_ | refine A.yes rfl rfl ?_ | refine A.no rfl rfl ?_ | refine A.yes rfl (by assumption) ?_ | refine A.no rfl (by assumption) ?_ | (refine A.guard rfl ?_ ?_ <;> intro hc)
    | refine A.move rfl ?_ | refine A.assign rfl ?_ | refine A.load_b rfl rfl rfl rfl ?_ | refine A.load_r rfl rfl rfl ?_ | refine A.field_b rfl rfl rfl rfl rfl rfl ?_ | refine A.field_r rfl rfl rfl rfl rfl rfl ?_ | refine A.field rfl rfl rfl rfl rfl ?_
    | refine A.index_r rfl rfl rfl rfl rfl rfl (by assumption) rfl ?_ | refine A.len rfl rfl rfl (by first | rw [List.length_map] | rfl) ?_ | refine A.lens rfl rfl rfl rfl ?_
    | refine A.pick_true rfl rfl rfl ?_ | refine A.pick_false rfl rfl rfl ?_ | refine A.pick_true rfl (by assumption) rfl ?_ | refine A.pick_false rfl (by assumption) rfl ?_
    | refine A.box rfl rfl rfl ?_ | refine A.alloc rfl rfl rfl ?_ | refine A.store rfl rfl rfl rfl rfl ?_ | refine A.build rfl rfl rfl rfl ?_ | refine A.buildSlice rfl rfl rfl rfl rfl rfl rfl ?_
    | refine A.eqi rfl rfl ?_ | refine A.nei rfl rfl ?_ | refine A.lss rfl rfl ?_ | refine A.leq rfl rfl ?_ | refine A.gtr rfl rfl ?_ | refine A.geq rfl rfl ?_ | refine A.eqb rfl rfl rfl rfl ?_ | refine A.neb rfl rfl rfl rfl ?_ | refine A.eqs rfl rfl ?_ | refine A.nes rfl rfl ?_ | refine A.lts rfl rfl ?_ | refine A.gts rfl rfl ?_
    | refine A.not rfl ?_ | refine A.extract rfl rfl ?_ | refine A.add64 rfl rfl rfl (by omega) ?_ | refine A.sub64 rfl rfl rfl (by omega) ?_
    | refine A.callV 0 rfl ht rfl rfl (Tbl.closedL _) (Tbl.closedL _) rfl (WeakL.refl _) hren rfl ?_
  exact ⟨_, _, rfl, Turn.refl _ _, rfl, rfl⟩

def sGone : Str := [103, 111, 110, 101]
def goneAV : AV := .agg [.str sGone, .slice [] .nil]
def goneY (l : List Tbl) (k : Nat) : List AV := List.replicate k goneAV ++ (l.drop k).map Tbl.enc
theorem goneY_len {l : List Tbl} {k : Nat} (h : k ≤ l.length) : (goneY l k).length = l.length := by simp [goneY]; omega
theorem goneY_get {l : List Tbl} {k : Nat} (h : k < l.length) : (goneY l k)[k]? = some l[k].enc := by
  unfold goneY
  rw [List.getElem?_append_right (by simp), List.length_replicate, Nat.sub_self, List.drop_eq_getElem_cons h]; rfl
theorem goneY_set {l : List Tbl} {k : Nat} (h : k < l.length) : (goneY l k).set k goneAV = goneY l (k + 1) := by
  unfold goneY
  rw [List.set_append_right _ _ (by simp), List.length_replicate, Nat.sub_self, List.drop_eq_getElem_cons h, List.map_cons, List.set_cons_zero, List.replicate_succ', List.append_assoc]; rfl
theorem goneY_closed (l : List Tbl) (k : Nat) : AV.closedL (goneY l k) = true := by
  have h1 : AV.closedL (List.replicate k goneAV) = true := by
    induction k with
    | zero => rfl
    | succ k ih => rw [List.replicate_succ, AV.closedL, ih]; rfl
  have h2 := Tbl.closedL (l.drop k)
  have key : ∀ xs ys : List AV, AV.closedL xs = true → AV.closedL ys = true → AV.closedL (xs ++ ys) = true := fun xs ys a b => by
    induction xs with
    | nil => exact b
    | cons x xs ih => simp only [AV.closedL, Bool.and_eq_true] at a; rw [List.cons_append, AV.closedL, a.1, ih a.2]; rfl
  exact key _ _ h1 h2
def goneT (t : Tbl) : Tbl := ⟨sGone, t.rows⟩
def goneE (e : Entry) : Entry := ⟨⟨sGone, e.b.keys⟩, e.c⟩
def upto {α : Type} (f : α → α) (l : List α) (k : Nat) : List α := (l.take k).map f ++ l.drop k
theorem upto_len {α : Type} {f : α → α} {l : List α} {k : Nat} : (upto f l k).length = l.length := by simp [upto]; omega
theorem upto_get {α : Type} {f : α → α} {l : List α} {k : Nat} (h : k < l.length) : (upto f l k)[k]? = some l[k] := by
  unfold upto
  have e : ((l.take k).map f).length = k := by simp; omega
  rw [List.getElem?_append_right (by omega), e, Nat.sub_self, List.drop_eq_getElem_cons h]; rfl
theorem upto_set {α : Type} {f : α → α} {l : List α} {k : Nat} (h : k < l.length) : (upto f l k).set k (f l[k]) = upto f l (k + 1) := by
  unfold upto
  have e : ((l.take k).map f).length = k := by simp; omega
  rw [List.set_append_right _ _ (by omega), e, Nat.sub_self, List.drop_eq_getElem_cons h, List.set_cons_zero, List.take_succ_eq_append_getElem h, List.map_append, List.append_assoc]; rfl
theorem map_set' {α : Type} (f : α → AV) (l : List α) (k : Nat) (y : α) : (l.map f).set k (f y) = (l.set k y).map f := (List.map_set ..).symm
theorem own_snoc2 {es : List Entry} {e : Entry} {x : AV} (h : Weak x e.enc) : Weak (.slice (es.map Entry.enc ++ [x]) (.own 2 7)) (.slice ((es ++ [e]).map Entry.enc) (.own 2 7)) := by
  rw [List.map_append]
  exact Weak.slice (WeakL.app (WeakL.refl _) (WeakL.cons h (WeakL.refl _)))

theorem storePlays (l : List Tbl) (ops : List Ask) (h : tabSize l + sumSize Ask.size ops + 2 ≤ 1048576) : PFn Try.prog 8 [Tbls.enc l, .slice (ops.map Ask.enc) .no] (.bool true) := by
  refine AFn.plain rfl (by simp [AV.closedL, AV.closed, Tbls.closed, Ask.closedL]) (AFn.enter [4] Try.func8 rfl rfl rfl rfl rfl (by decide) ?_)
  have haz : ∀ o : Ask, o.size = o.c.size + (o.b.table.length + sumSize strSize o.b.keys + 2) + 1 := fun _ => rfl
  have hcz : ∀ c : Cmd, c.size = c.name.length + c.table.length + c.col.length + c.typ.length + sumSize Mem.size c.args + 5 := fun _ => rfl
  have hol := sumSize_length (size := Ask.size) (fun o => by rw [haz]; omega) ops
  have hmem : ∀ o ∈ ops, o.size ≤ sumSize Ask.size ops := fun o ho => sumSize_mem (size := Ask.size) ho
  have hkey : ∀ o ∈ ops, o.b.keys.length ≤ 1048576 := fun o ho => by
    have h1 := hmem o ho
    have h2 := haz o
    have h3 := sumSize_length (size := strSize) (fun s => by unfold strSize; omega) o.b.keys
    omega
  have harg : ∀ o ∈ ops, o.c.args.length ≤ 1048576 := fun o ho => by
    have h1 := hmem o ho
    have h2 := haz o
    have h3 := (args_of o.c).2
    omega
  have hW : ∀ L : List Ask, sumSize askW L ≤ sumSize Ask.size L := fun L => by
    induction L with
    | nil => exact Nat.le_refl _
    | cons o L ih =>
      have h2 := haz o
      have h3 := (args_of o.c).2
      have h4 : askW o = o.c.args.length + 1 := rfl
      simp only [sumSize]; omega
  have hR : ∀ L : List Ask, sumSize askR L ≤ 8 * sumSize Ask.size L := fun L => by
    induction L with
    | nil => exact Nat.le_refl _
    | cons o L ih =>
      have h2 := haz o
      have h3 := hcz o.c
      have h4 : askR o = o.c.size + 8 := rfl
      simp only [sumSize]; omega
  have hW0 := hW ops
  have hR0 := hR ops
  have hF : Fine 1048576 l := (fine_of (Nat.le_refl (tabSize l))).le (by omega)
  have hl := light_of l _ (Nat.le_refl _) (by omega)
  have hL := light29 ops (by omega) hkey (fun o ho => by
    have h1 := hmem o ho
    have h2 := haz o
    have h3 := (args_of o.c).1
    omega)
  have hw := awake29
  have hlo : ∀ n m, AV.lowL n m (ops.map Ask.enc) = true := fun n m => AV.lowL_of_closed n m _ (Ask.closedL ops)
  have hll := hF.len
  have hkp := keepV l (by have := hF.len; omega) hF.rows (fun t ht r hr => by have := cols_of (Nat.le_refl (tabSize l)) t ht r hr; omega)
  have hnv := newV l hF
  have n1 := doN ⟨sPut, [], [], [], []⟩
  have n2 := getN ⟨[], [[97]]⟩
  have n3 := tablesN
  have n4 := logN
  have hYl : ∀ a b k, AV.lowL a b (goneY l k) = true := fun a b k => AV.lowL_of_closed a b _ (goneY_closed l k)
  cases d1 : lightT l <;> cases d2 : lightA ops <;> rw [d1] at hl <;> rw [d2] at hL
  rotate_right
  · repeat' first
      | refine HCode.seq ?_ | refine HCode.region rfl ?_ | refine HCode.region_draw Lay.mix rfl ?_ | refine HCode.block ?_ | refine HCode.scope ?_ | refine HCode.skip ?_ | refine HCode.label ?_ | refine HCode.exit ?_ | refine HCode.ret ?_
      | refine HCode.cond_true rfl ?_ | refine HCode.cond_false rfl ?_ | refine HCode.cond_yes rfl (by assumption) ?_ | refine HCode.cond_no rfl (by assumption) ?_ | (refine HCode.cond rfl ?_ ?_ <;> intro hc)
      | refine A.nil_seq ?_ | refine A.nil (fun _ => rfl) ?_ | refine A.dead rfl ?_ | refine A.yes rfl rfl ?_ | refine A.no rfl rfl ?_ | refine A.yes rfl (by assumption) ?_ | refine A.no rfl (by assumption) ?_ | (refine A.guard rfl ?_ ?_ <;> intro hc)
      | refine A.move rfl ?_ | refine A.assign rfl ?_ | refine A.load_b rfl rfl rfl rfl ?_ | refine A.load_r rfl rfl rfl ?_ | refine A.field_b rfl rfl rfl rfl rfl rfl ?_ | refine A.field_r rfl rfl rfl rfl rfl rfl ?_ | refine A.field rfl rfl rfl rfl rfl ?_
      | refine A.index_r rfl rfl rfl rfl rfl rfl (by assumption) rfl ?_ | refine A.len rfl rfl rfl (by first | rw [List.length_map] | rfl) ?_ | refine A.lens rfl rfl rfl rfl ?_
      | refine A.pick_true rfl rfl rfl ?_ | refine A.pick_false rfl rfl rfl ?_ | refine A.pick_true rfl (by assumption) rfl ?_ | refine A.pick_false rfl (by assumption) rfl ?_
      | refine A.box rfl rfl rfl ?_ | refine A.alloc rfl rfl rfl ?_ | refine A.store rfl rfl rfl rfl rfl ?_ | refine A.build rfl rfl rfl rfl ?_ | refine A.buildSlice rfl rfl rfl rfl rfl rfl rfl ?_
      | refine A.eqi rfl rfl ?_ | refine A.nei rfl rfl ?_ | refine A.lss rfl rfl ?_ | refine A.leq rfl rfl ?_ | refine A.gtr rfl rfl ?_ | refine A.geq rfl rfl ?_ | refine A.eqb rfl rfl rfl rfl ?_ | refine A.neb rfl rfl rfl rfl ?_ | refine A.eqs rfl rfl ?_ | refine A.nes rfl rfl ?_ | refine A.lts rfl rfl ?_ | refine A.gts rfl rfl ?_
      | refine A.not rfl ?_ | refine A.extract rfl rfl ?_ | refine A.add64 rfl rfl rfl (by omega) ?_ | refine A.sub64 rfl rfl rfl (by omega) ?_
      | refine A.call rfl hl (WeakL.refl _) ?_ | refine A.call rfl hL (WeakL.refl _) ?_ | refine A.callT rfl hkp (by simp [AV.closedL, Tbls.closed]) (Tbl.closedL _) (WeakL.refl _) rfl rfl ?_
      | refine A.callOV rfl rfl hnv (Tbls.closed _) (Tbl.closedL _) rfl (WeakL.refl _) ?_ | refine A.peq rfl rfl rfl ?_
    change HCode _ _ _ _ _ _ _
    refine HCode.loop (fun n s σ => ∃ k : Nat, n = l.length - k ∧ k ≤ l.length ∧ σ = ⟨[.cells [Tbls.enc l, .slice [] (.own 1 7)]], [.vec (goneY l k), .len 0]⟩ ∧
      s = [(7, .int .i64 k), (5, .vec 0 2 l.length 0 l.length), (6, .ptr 0 0), (0, Tbls.enc l), (1, .slice (ops.map Ask.enc) .no)])
      (s0 := [(7, .int .i64 (0 : Nat)), (5, .vec 0 2 l.length 0 l.length), (6, .ptr 0 0), (0, Tbls.enc l), (1, .slice (ops.map Ask.enc) .no)]) ⟨rfl, rfl, rfl, rfl, rfl, trivial⟩
      ⟨0, rfl, Nat.zero_le _, by unfold goneY; rfl, rfl⟩ ?_
    rintro n s σ ⟨k, rfl, hk, rfl, rfl⟩
    have hyl := goneY_len hk
    by_cases h1 : k < l.length
    · have d3 : decide ((k : Int) < (l.length : Int)) = true := by simp [h1]
      have x1 := goneY_get h1
      have hidx : 0 + k < l.length := by omega
      repeat' first
        | refine HCode.seq ?_ | refine HCode.region rfl ?_ | refine HCode.region_draw Lay.mix rfl ?_ | refine HCode.block ?_ | refine HCode.scope ?_ | refine HCode.skip ?_ | refine HCode.label ?_ | refine HCode.exit ?_ | refine HCode.ret ?_
        | refine HCode.cond_true rfl ?_ | refine HCode.cond_false rfl ?_ | refine HCode.cond_yes rfl (by assumption) ?_ | refine HCode.cond_no rfl (by assumption) ?_ | (refine HCode.cond rfl ?_ ?_ <;> intro hc)
        | refine A.nil_seq ?_ | refine A.nil (fun _ => rfl) ?_ | refine A.dead rfl ?_ | refine A.yes rfl rfl ?_ | refine A.no rfl rfl ?_ | refine A.yes rfl (by assumption) ?_ | refine A.no rfl (by assumption) ?_ | (refine A.guard rfl ?_ ?_ <;> intro hc)
        | refine A.move rfl ?_ | refine A.assign rfl ?_ | refine A.load_b rfl rfl rfl rfl ?_ | refine A.load_r rfl rfl rfl ?_ | refine A.field_b rfl rfl rfl rfl rfl rfl ?_ | refine A.field_r rfl rfl rfl rfl rfl rfl ?_ | refine A.field rfl rfl rfl rfl rfl ?_
        | refine A.index_r rfl rfl rfl rfl rfl rfl (by assumption) rfl ?_ | refine A.len rfl rfl rfl (by first | rw [List.length_map] | rfl) ?_ | refine A.lens rfl rfl rfl rfl ?_
        | refine A.pick_true rfl rfl rfl ?_ | refine A.pick_false rfl rfl rfl ?_ | refine A.pick_true rfl (by assumption) rfl ?_ | refine A.pick_false rfl (by assumption) rfl ?_
        | refine A.box rfl rfl rfl ?_ | refine A.alloc rfl rfl rfl ?_ | refine A.store rfl rfl rfl rfl rfl ?_ | refine A.build rfl rfl rfl rfl ?_ | refine A.buildSlice rfl rfl rfl rfl rfl rfl rfl ?_
        | refine A.eqi rfl rfl ?_ | refine A.nei rfl rfl ?_ | refine A.lss rfl rfl ?_ | refine A.leq rfl rfl ?_ | refine A.gtr rfl rfl ?_ | refine A.geq rfl rfl ?_ | refine A.eqb rfl rfl rfl rfl ?_ | refine A.neb rfl rfl rfl rfl ?_ | refine A.eqs rfl rfl ?_ | refine A.nes rfl rfl ?_ | refine A.lts rfl rfl ?_ | refine A.gts rfl rfl ?_
        | refine A.not rfl ?_ | refine A.extract rfl rfl ?_ | refine A.add64 rfl rfl rfl (by omega) ?_ | refine A.sub64 rfl rfl rfl (by omega) ?_
        | refine A.vindex rfl rfl rfl rfl rfl rfl rfl (by assumption) (Nat.zero_add _) ?_ | refine A.vfield rfl rfl rfl rfl rfl rfl ?_ | refine A.vload rfl rfl rfl (by assumption) (by assumption) rfl ?_ | refine A.vlen rfl rfl rfl rfl ?_ | refine A.vstore (agg := true) rfl rfl rfl rfl rfl (by assumption) (by assumption) rfl rfl rfl rfl ?_
      refine ⟨l.length - (k + 1), by omega, [(7, .int .i64 ((k + 1 : Nat) : Int)), (5, .vec 0 2 l.length 0 l.length), (6, .ptr 0 0), (0, Tbls.enc l), (1, .slice (ops.map Ask.enc) .no)], ⟨rfl, rfl, rfl, rfl, rfl, trivial⟩,
        by simp [belowS, AV.low, hlo, Tbls.enc, Tbl.lowL], ?_, k + 1, rfl, by omega, ?_, rfl⟩
      · show (belowB 1 2 [.cells [Tbls.enc l, .slice [] (.own 1 7)]] && belowT 1 2 [.vec ((goneY l k).set k goneAV), .len 0]) = true
        rw [goneY_set h1]
        simp [belowB, belowT, Tok.low, Ob.low, AV.low, AV.lowL, Tbls.enc, Tbl.lowL, hYl]
      · show (⟨_, [.vec ((goneY l k).set k goneAV), .len 0]⟩ : St) = _
        rw [goneY_set h1]
        rfl
    · have d3 : decide ((k : Int) < (l.length : Int)) = false := by simp; omega
      have hka : k = l.length := by omega
      subst hka
      obtain ⟨Y, hY⟩ : ∃ Y, Y = goneY l l.length := ⟨_, rfl⟩
      have hYl' : ∀ a b, AV.lowL a b Y = true := fun a b => by rw [hY]; exact hYl a b _
      rw [← hY]
      repeat' first
        | refine HCode.seq ?_ | refine HCode.region rfl ?_ | refine HCode.region_draw Lay.mix rfl ?_ | refine HCode.block ?_ | refine HCode.scope ?_ | refine HCode.skip ?_ | refine HCode.label ?_ | refine HCode.exit ?_ | refine HCode.ret ?_
        | refine HCode.cond_true rfl ?_ | refine HCode.cond_false rfl ?_ | refine HCode.cond_yes rfl (by assumption) ?_ | refine HCode.cond_no rfl (by assumption) ?_ | (refine HCode.cond rfl ?_ ?_ <;> intro hc)
        | refine A.nil_seq ?_ | refine A.nil (fun _ => rfl) ?_ | refine A.dead rfl ?_ | refine A.yes rfl rfl ?_ | refine A.no rfl rfl ?_ | refine A.yes rfl (by assumption) ?_ | refine A.no rfl (by assumption) ?_ | (refine A.guard rfl ?_ ?_ <;> intro hc)
        | refine A.move rfl ?_ | refine A.assign rfl ?_ | refine A.load_b rfl rfl rfl rfl ?_ | refine A.load_r rfl rfl rfl ?_ | refine A.field_b rfl rfl rfl rfl rfl rfl ?_ | refine A.field_r rfl rfl rfl rfl rfl rfl ?_ | refine A.field rfl rfl rfl rfl rfl ?_
        | refine A.index_r rfl rfl rfl rfl rfl rfl (by assumption) rfl ?_ | refine A.len rfl rfl rfl (by first | rw [List.length_map] | rfl) ?_ | refine A.lens rfl rfl rfl rfl ?_
        | refine A.pick_true rfl rfl rfl ?_ | refine A.pick_false rfl rfl rfl ?_ | refine A.pick_true rfl (by assumption) rfl ?_ | refine A.pick_false rfl (by assumption) rfl ?_
        | refine A.box rfl rfl rfl ?_ | refine A.alloc rfl rfl rfl ?_ | refine A.store rfl rfl rfl rfl rfl ?_ | refine A.build rfl rfl rfl rfl ?_ | refine A.buildSlice rfl rfl rfl rfl rfl rfl rfl ?_
        | refine A.eqi rfl rfl ?_ | refine A.nei rfl rfl ?_ | refine A.lss rfl rfl ?_ | refine A.leq rfl rfl ?_ | refine A.gtr rfl rfl ?_ | refine A.geq rfl rfl ?_ | refine A.eqb rfl rfl rfl rfl ?_ | refine A.neb rfl rfl rfl rfl ?_ | refine A.eqs rfl rfl ?_ | refine A.nes rfl rfl ?_ | refine A.lts rfl rfl ?_ | refine A.gts rfl rfl ?_
        | refine A.not rfl ?_ | refine A.extract rfl rfl ?_ | refine A.add64 rfl rfl rfl (by omega) ?_ | refine A.sub64 rfl rfl rfl (by omega) ?_
        | refine A.vindex rfl rfl rfl rfl rfl rfl rfl (by assumption) (Nat.zero_add _) ?_ | refine A.vfield rfl rfl rfl rfl rfl rfl ?_ | refine A.vload rfl rfl rfl (by assumption) (by assumption) rfl ?_ | refine A.vlen rfl rfl rfl rfl ?_
      change HCode _ _ _ _ _ _ _
      refine HCode.adopt 9 true 7 rfl rfl rfl rfl rfl rfl ?_
      refine HCode.loop (fun n s σ => ∃ (k B R : Nat) (m : List Tbl) (es : List Entry), n = ops.length - k ∧ k ≤ ops.length ∧ es.length = k ∧ es = (ops.take k).map logOf ∧ Slims B R m ∧ B + sumSize askW (ops.drop k) ≤ 1048576 - 2 ∧
        R + sumSize askR (ops.drop k) ≤ 1048576 * 32 ∧ σ = ⟨[.cells [Tbls.enc m, .slice (es.map Entry.enc) (.own 1 7)]], [.vec Y, .len es.length, .len es.length]⟩ ∧
        s = [(10, .int .i64 k), (6, .ptr 0 0), (8, Tbls.enc m), (9, .slice (es.map Entry.enc) (.own 2 7)), (1, .slice (ops.map Ask.enc) .no)])
        (s0 := [(10, .int .i64 (0 : Nat)), (6, .ptr 0 0), (8, Tbls.enc l), (9, .slice (([] : List Entry).map Entry.enc) (.own 2 7)), (1, .slice (ops.map Ask.enc) .no)]) ⟨rfl, rfl, rfl, rfl, rfl, trivial⟩
        ⟨0, tabSize l, tabSize l, l, [], rfl, Nat.zero_le _, rfl, rfl, slims_of (Nat.le_refl _), by rw [List.drop_zero]; omega, by rw [List.drop_zero]; omega, rfl, rfl⟩ ?_
      rintro n s σ ⟨k, B, R, m, es, rfl, hk, hel, hes, hsl, hB, hRR, rfl, rfl⟩
      by_cases h1 : k < ops.length
      · have d3 : decide ((k : Int) < (ops.length : Int)) = true := by simp [h1]
        have x1 := map_get' (f := Ask.enc) h1
        rw [sumSize_drop askW h1] at hB
        rw [sumSize_drop askR h1] at hRR
        have hsl2 := step_slims hsl ops[k]
        have hel2 : (es ++ [logOf ops[k]]).length = k + 1 := by simp [hel]
        have hes2 : es ++ [logOf ops[k]] = (ops.take (k + 1)).map logOf := by rw [hes, List.take_add_one, List.getElem?_eq_getElem h1, List.map_append]; rfl
        have hks := hkey _ (List.getElem_mem h1)
        have haW : askW ops[k] = ops[k].c.args.length + 1 := rfl
        have hgs := getS m es ops[k].b (hsl.fine.le (by omega)) hks (by omega)
        have hds := doS m es ops[k].c hsl.fine (by omega) (by omega)
        have hrd := refDo m ops[k].c hsl.fine (by omega)
        have hrg := gotsR m ops[k].b (hsl.fine.le (by omega)) hks
        have hEk : ∀ e ∈ es ++ [logOf ops[k]], e.b.keys.length ≤ 1048576 ∧ e.c.args.length ≤ 1048576 ∧ sumSize Mem.size e.c.args ≤ 1048576 := fun e he => by
          rw [hes2] at he
          obtain ⟨o, ho, rfl⟩ := List.mem_map.1 he
          have ho' := List.mem_of_mem_take ho
          have h3 := hmem o ho'
          have h4 := haz o
          have h5 := (args_of o.c).1
          unfold logOf; split
          · exact ⟨Nat.zero_le _, harg o ho', by dsimp only; omega⟩
          · exact ⟨hkey o ho', Nat.zero_le _, Nat.zero_le _⟩
        obtain ⟨m', hm'⟩ : ∃ m', m' = stepA ops[k] m := ⟨_, rfl⟩
        rw [← hm'] at hsl2
        have htv := tablesV m' (es ++ [logOf ops[k]]) (hsl2.fine.le (by omega))
        have hlv := logV m' (es ++ [logOf ops[k]]) (by omega) (fun e he => (hEk e he).1) (fun e he => (hEk e he).2.1)
        have hst := sames_of hsl2 (by omega) (by omega)
        have hsg := sameLog (es ++ [logOf ops[k]]) (by omega) (fun e he => by have := (hEk e he).1; omega) (fun e he => by have := (hEk e he).2.2; omega)
        have e0 : ((cmdG m ops[k].c).2.2 != (cmdG m ops[k].c).2.2) = false := by simp
        have hzz := cmdG_size m ops[k].c
        have hck : ops[k].c.size ≤ 1048576 := by
          have h3 := hmem _ (List.getElem_mem h1)
          have h4 := haz ops[k]
          omega
        have hsv := sameSelf (cmdG m ops[k].c).2.1 (by omega)
        have hgg := sameGots (gots m ops[k].b) (by rw [gots_length]; omega) (fun g hg => by
          obtain ⟨q, _, rfl⟩ := List.mem_map.1 hg
          have := (find_row (Q := Slim B R) hsl.2.2 ⟨Nat.zero_le _, Nat.zero_le _⟩ ⟨ops[k].b.table, q⟩).2
          omega)
        obtain ⟨es', hE'⟩ : ∃ es', es' = es ++ [logOf ops[k]] := ⟨_, rfl⟩
        have hml := (hsl2.fine.le (show B + askW ops[k] ≤ 1048576 by omega)).len
        rw [← hE'] at hel2 hes2 htv hlv hsg
        have hml2 : (m'.map Tbl.enc).length = m'.length := List.length_map ..
        have hel3 : (es'.map Entry.enc).length = es'.length := List.length_map ..
        have hel4 : (es.map Entry.enc).length = es.length := List.length_map ..
        have hlook1 : ∀ {σ : St}, σ.T[3]? = some (.vec (m'.map Tbl.enc)) → LookL σ [.vec 3 2 m'.length 0 m'.length, Tbls.enc m'] [Tbls.enc m', Tbls.enc m'] := fun {σ} hT => by
          refine LookL.cons ?_ (LookL.cons (Look.closed (Tbls.closed _)) LookL.nil)
          have := Look.vec (k := 3) (z := 2) (n := m'.length) (lo := 0) (hi := m'.length) hT hml2 (LookL.closed (Tbl.closedL m'))
          rwa [List.drop_zero, List.take_of_length_le (by omega)] at this
        have hlook2 : ∀ {σ : St}, σ.T[4]? = some (.vec (es'.map Entry.enc)) → LookL σ [.vec 4 7 es'.length 0 es'.length, .slice (es'.map Entry.enc) (.own 2 7)] [.slice (es'.map Entry.enc) .no, .slice (es'.map Entry.enc) .no] := fun {σ} hT => by
          refine LookL.cons ?_ (LookL.cons (Look.weak (Weak.no (WeakL.refl _)) (Look.closed (by simp [AV.closed, Entry.closedL]))) LookL.nil)
          have := Look.vec (k := 4) (z := 7) (n := es'.length) (lo := 0) (hi := es'.length) hT hel3 (LookL.closed (Entry.closedL es'))
          rwa [List.drop_zero, List.take_of_length_le (by omega)] at this
        cases hdo : ops[k].do_
        · have e1 : m' = m := by rw [hm']; unfold stepA; exact if_neg (by simp [hdo])
          have e2 : logOf ops[k] = (⟨ops[k].b, c0⟩ : Entry) := by unfold logOf; exact if_neg (by simp [hdo])
          rw [e2] at hE'
          have hx : Weak (.slice (es.map Entry.enc ++ [.agg [.str ops[k].b.table, .slice (ops[k].b.keys.map AV.str) .no, .str [], .str [], .str [], .str [], .slice [] .nil]]) (.own 2 7)) (.slice (es'.map Entry.enc) (.own 2 7)) := by rw [hE']; exact own_snoc2 (e := (⟨ops[k].b, c0⟩ : Entry)) (Weak.agg (WeakL.cons (Weak.refl _) (WeakL.cons (Weak.refl _) (WeakL.cons (Weak.refl _) (WeakL.cons (Weak.refl _) (WeakL.cons (Weak.refl _) (WeakL.cons (Weak.refl _) (WeakL.cons (Weak.no (WeakL.refl _)) (WeakL.refl _)))))))))
          subst e1
          subst hE'
          repeat' first
            | refine HCode.less 9 rfl hx ?_
            | refine HCode.seq ?_ | refine HCode.region rfl ?_ | refine HCode.region_draw Lay.mix rfl ?_ | refine HCode.block ?_ | refine HCode.scope ?_ | refine HCode.skip ?_ | refine HCode.label ?_ | refine HCode.exit ?_ | refine HCode.ret ?_
            | refine HCode.cond_true rfl ?_ | refine HCode.cond_false rfl ?_ | refine HCode.cond_yes rfl (by assumption) ?_ | refine HCode.cond_no rfl (by assumption) ?_ | (refine HCode.cond rfl ?_ ?_ <;> intro hc)
            | refine A.nil_seq ?_ | refine A.nil (fun _ => rfl) ?_ | refine A.dead rfl ?_ | refine A.yes rfl rfl ?_ | refine A.no rfl rfl ?_ | refine A.yes rfl (by assumption) ?_ | refine A.no rfl (by assumption) ?_ | (refine A.guard rfl ?_ ?_ <;> intro hc)
            | refine A.move rfl ?_ | refine A.assign rfl ?_ | refine A.load_b rfl rfl rfl rfl ?_ | refine A.load_r rfl rfl rfl ?_ | refine A.field_b rfl rfl rfl rfl rfl rfl ?_ | refine A.field_r rfl rfl rfl rfl rfl rfl ?_ | refine A.field rfl rfl rfl rfl rfl ?_
            | refine A.index_r rfl rfl rfl rfl rfl rfl (by assumption) rfl ?_ | refine A.len rfl rfl rfl (by first | rw [List.length_map] | rfl) ?_ | refine A.lens rfl rfl rfl rfl ?_
            | refine A.pick_true rfl rfl rfl ?_ | refine A.pick_false rfl rfl rfl ?_ | refine A.pick_true rfl (by assumption) rfl ?_ | refine A.pick_false rfl (by assumption) rfl ?_
            | refine A.box rfl rfl rfl ?_ | refine A.alloc rfl rfl rfl ?_ | refine A.store rfl rfl rfl rfl rfl ?_ | refine A.build rfl rfl rfl rfl ?_ | refine A.buildSlice rfl rfl rfl rfl rfl rfl rfl ?_
            | refine A.eqi rfl rfl ?_ | refine A.nei rfl rfl ?_ | refine A.lss rfl rfl ?_ | refine A.leq rfl rfl ?_ | refine A.gtr rfl rfl ?_ | refine A.geq rfl rfl ?_ | refine A.eqb rfl rfl rfl rfl ?_ | refine A.neb rfl rfl rfl rfl ?_ | refine A.eqs rfl rfl ?_ | refine A.nes rfl rfl ?_ | refine A.lts rfl rfl ?_ | refine A.gts rfl rfl ?_
            | refine A.not rfl ?_ | refine A.extract rfl rfl ?_ | refine A.add64 rfl rfl rfl (by omega) ?_ | refine A.sub64 rfl rfl rfl (by omega) ?_
            | refine A.callS 0 rfl hds rfl rfl (by simp [AV.closedL, Cmd.closed]) (Tbls.closed _) (Tbls.closed _) (Entry.closedL _) (Entry.closedL _) (by simp [AV.closed, AV.closedL, Val.closed]) (WeakL.refl _) rfl rfl ?_
            | refine A.callS 0 rfl hgs rfl rfl (by simp [AV.closedL, Batch.closed]) (Tbls.closed _) (Tbls.closed _) (Entry.closedL _) (Entry.closedL _) gots_closed (WeakL.refl _) rfl rfl ?_
            | refine A.call rfl hrd (WeakL.refl _) ?_ | refine A.call rfl hrg (WeakL.refl _) ?_ | refine A.call rfl hsv (WeakL.refl _) ?_ | refine A.call rfl hgg (WeakL.refl _) ?_
            | refine A.callSV 0 rfl htv rfl rfl rfl (Tbls.closed _) (Entry.closedL _) (Tbl.closedL _) (WeakL.refl _) rfl rfl ?_ | refine A.callSV 0 rfl hlv rfl rfl rfl (Tbls.closed _) (Entry.closedL _) (Entry.closedL _) (WeakL.refl _) rfl rfl ?_
            | refine A.callB rfl hst (hlook1 rfl) rfl ?_ | refine A.callB rfl hsg (hlook2 rfl) rfl ?_
            | refine A.append (n := es.length) rfl rfl rfl rfl rfl rfl rfl rfl hel4 rfl (by dsimp only [List.length_cons, List.length_nil]; omega) (by dsimp only [List.length_cons, List.length_nil]; omega) rfl ?_
          change HCode _ _ _ _ _ _ _
          refine HCode.loop (fun n s σ => ∃ j : Nat, n = (m').length - j ∧ j ≤ (m').length ∧ σ = ⟨[.cells [Tbls.enc (m'), .slice ((es ++ [(⟨ops[k].b, c0⟩ : Entry)]).map Entry.enc) (.own 1 7)]], [.vec Y, .len (es ++ [(⟨ops[k].b, c0⟩ : Entry)]).length, .len (es.length + 1), .vec ((upto goneT (m') j).map Tbl.enc), .vec ((es ++ [(⟨ops[k].b, c0⟩ : Entry)]).map Entry.enc)]⟩ ∧
            s = [(19, .int .i64 j), (17, .vec 3 2 (m').length 0 (m').length), (18, .vec 4 7 (es ++ [(⟨ops[k].b, c0⟩ : Entry)]).length 0 (es ++ [(⟨ops[k].b, c0⟩ : Entry)]).length), (10, .int .i64 k), (6, .ptr 0 0), (8, Tbls.enc (m')), (9, .slice ((es ++ [(⟨ops[k].b, c0⟩ : Entry)]).map Entry.enc) (.own 2 7)), (1, .slice (ops.map Ask.enc) .no)])
            (s0 := [(19, .int .i64 (0 : Nat)), (17, .vec 3 2 (m').length 0 (m').length), (18, .vec 4 7 (es ++ [(⟨ops[k].b, c0⟩ : Entry)]).length 0 (es ++ [(⟨ops[k].b, c0⟩ : Entry)]).length), (10, .int .i64 k), (6, .ptr 0 0), (8, Tbls.enc (m')), (9, .slice ((es ++ [(⟨ops[k].b, c0⟩ : Entry)]).map Entry.enc) (.own 2 7)), (1, .slice (ops.map Ask.enc) .no)])
            ⟨rfl, rfl, rfl, rfl, rfl, rfl, rfl, rfl, trivial⟩ ⟨0, rfl, Nat.zero_le _, rfl, rfl⟩ ?_
          rintro n s σ ⟨j, rfl, hj, rfl, rfl⟩
          have hul : ((upto goneT (m') j).map Tbl.enc).length = (m').length := by rw [List.length_map, upto_len]
          by_cases h2 : j < (m').length
          · have d4 : decide ((j : Int) < (((m').length : Nat) : Int)) = true := by simp [h2]
            have x2 : ((upto goneT (m') j).map Tbl.enc)[j]? = some (m')[j].enc := by rw [List.getElem?_map, upto_get h2]; rfl
            have hidx : 0 + j < (m').length := by omega
            have hset : ((upto goneT (m') j).map Tbl.enc).set j (goneT (m')[j]).enc = (upto goneT (m') (j + 1)).map Tbl.enc := by rw [map_set', upto_set h2]
            repeat' first
              | refine HCode.seq ?_ | refine HCode.region rfl ?_ | refine HCode.region_draw Lay.mix rfl ?_ | refine HCode.block ?_ | refine HCode.scope ?_ | refine HCode.skip ?_ | refine HCode.label ?_ | refine HCode.exit ?_ | refine HCode.ret ?_
              | refine HCode.cond_true rfl ?_ | refine HCode.cond_false rfl ?_ | refine HCode.cond_yes rfl (by assumption) ?_ | refine HCode.cond_no rfl (by assumption) ?_ | (refine HCode.cond rfl ?_ ?_ <;> intro hc)
              | refine A.nil_seq ?_ | refine A.nil (fun _ => rfl) ?_ | refine A.dead rfl ?_ | refine A.yes rfl rfl ?_ | refine A.no rfl rfl ?_ | refine A.yes rfl (by assumption) ?_ | refine A.no rfl (by assumption) ?_ | (refine A.guard rfl ?_ ?_ <;> intro hc)
              | refine A.move rfl ?_ | refine A.assign rfl ?_ | refine A.load_b rfl rfl rfl rfl ?_ | refine A.load_r rfl rfl rfl ?_ | refine A.field_b rfl rfl rfl rfl rfl rfl ?_ | refine A.field_r rfl rfl rfl rfl rfl rfl ?_ | refine A.field rfl rfl rfl rfl rfl ?_
              | refine A.index_r rfl rfl rfl rfl rfl rfl (by assumption) rfl ?_ | refine A.len rfl rfl rfl (by first | rw [List.length_map] | rfl) ?_ | refine A.lens rfl rfl rfl rfl ?_
              | refine A.pick_true rfl rfl rfl ?_ | refine A.pick_false rfl rfl rfl ?_ | refine A.pick_true rfl (by assumption) rfl ?_ | refine A.pick_false rfl (by assumption) rfl ?_
              | refine A.box rfl rfl rfl ?_ | refine A.alloc rfl rfl rfl ?_ | refine A.store rfl rfl rfl rfl rfl ?_ | refine A.build rfl rfl rfl rfl ?_ | refine A.buildSlice rfl rfl rfl rfl rfl rfl rfl ?_
              | refine A.eqi rfl rfl ?_ | refine A.nei rfl rfl ?_ | refine A.lss rfl rfl ?_ | refine A.leq rfl rfl ?_ | refine A.gtr rfl rfl ?_ | refine A.geq rfl rfl ?_ | refine A.eqb rfl rfl rfl rfl ?_ | refine A.neb rfl rfl rfl rfl ?_ | refine A.eqs rfl rfl ?_ | refine A.nes rfl rfl ?_ | refine A.lts rfl rfl ?_ | refine A.gts rfl rfl ?_
              | refine A.not rfl ?_ | refine A.extract rfl rfl ?_ | refine A.add64 rfl rfl rfl (by omega) ?_ | refine A.sub64 rfl rfl rfl (by omega) ?_
              | refine A.vindex rfl rfl rfl rfl rfl rfl rfl (by assumption) (Nat.zero_add _) ?_ | refine A.vfield rfl rfl rfl rfl rfl rfl ?_ | refine A.vload rfl rfl rfl (by assumption) (by assumption) rfl ?_ | refine A.vlen rfl rfl rfl rfl ?_ | refine A.vstore (agg := true) rfl rfl rfl rfl rfl (by assumption) (by assumption) rfl rfl rfl rfl ?_
            refine ⟨(m').length - (j + 1), by omega, [(19, .int .i64 ((j + 1 : Nat) : Int)), (17, .vec 3 2 (m').length 0 (m').length), (18, .vec 4 7 (es ++ [(⟨ops[k].b, c0⟩ : Entry)]).length 0 (es ++ [(⟨ops[k].b, c0⟩ : Entry)]).length), (10, .int .i64 k), (6, .ptr 0 0), (8, Tbls.enc (m')), (9, .slice ((es ++ [(⟨ops[k].b, c0⟩ : Entry)]).map Entry.enc) (.own 2 7)), (1, .slice (ops.map Ask.enc) .no)],
              ⟨rfl, rfl, rfl, rfl, rfl, rfl, rfl, rfl, trivial⟩, by simp [-List.map_append, belowS, AV.low, hlo, Entry.lowL, Tbls.enc, Tbl.lowL], ?_, j + 1, rfl, by omega, ?_, rfl⟩
            · show (belowB _ 5 [_] && belowT _ 5 [.vec Y, .len _, .len _, .vec (((upto goneT (m') j).map Tbl.enc).set j (goneT (m')[j]).enc), .vec _]) = true
              rw [hset]
              simp [-List.map_append, belowB, belowT, Tok.low, Ob.low, AV.low, AV.lowL, Entry.lowL, Tbls.enc, Tbl.lowL, hYl', Val.lv_low, Val.mv_low]
            · show (⟨_, [.vec Y, .len _, .len _, .vec (((upto goneT (m') j).map Tbl.enc).set j (goneT (m')[j]).enc), .vec _]⟩ : St) = _
              rw [hset]
              rfl
          · have d4 : decide ((j : Int) < (((m').length : Nat) : Int)) = false := by simp; omega
            obtain ⟨Y2, hY2⟩ : ∃ Y2, Y2 = (upto goneT (m') j).map Tbl.enc := ⟨_, rfl⟩
            have hY2l : ∀ a b, AV.lowL a b Y2 = true := fun a b => by rw [hY2]; exact Tbl.lowL a b _
            rw [← hY2]
            rw [← hY2] at hul
            repeat' first
              | refine HCode.seq ?_ | refine HCode.region rfl ?_ | refine HCode.region_draw Lay.mix rfl ?_ | refine HCode.block ?_ | refine HCode.scope ?_ | refine HCode.skip ?_ | refine HCode.label ?_ | refine HCode.exit ?_ | refine HCode.ret ?_
              | refine HCode.cond_true rfl ?_ | refine HCode.cond_false rfl ?_ | refine HCode.cond_yes rfl (by assumption) ?_ | refine HCode.cond_no rfl (by assumption) ?_ | (refine HCode.cond rfl ?_ ?_ <;> intro hc)
              | refine A.nil_seq ?_ | refine A.nil (fun _ => rfl) ?_ | refine A.dead rfl ?_ | refine A.yes rfl rfl ?_ | refine A.no rfl rfl ?_ | refine A.yes rfl (by assumption) ?_ | refine A.no rfl (by assumption) ?_ | (refine A.guard rfl ?_ ?_ <;> intro hc)
              | refine A.move rfl ?_ | refine A.assign rfl ?_ | refine A.load_b rfl rfl rfl rfl ?_ | refine A.load_r rfl rfl rfl ?_ | refine A.field_b rfl rfl rfl rfl rfl rfl ?_ | refine A.field_r rfl rfl rfl rfl rfl rfl ?_ | refine A.field rfl rfl rfl rfl rfl ?_
              | refine A.index_r rfl rfl rfl rfl rfl rfl (by assumption) rfl ?_ | refine A.len rfl rfl rfl (by first | rw [List.length_map] | rfl) ?_ | refine A.lens rfl rfl rfl rfl ?_
              | refine A.pick_true rfl rfl rfl ?_ | refine A.pick_false rfl rfl rfl ?_ | refine A.pick_true rfl (by assumption) rfl ?_ | refine A.pick_false rfl (by assumption) rfl ?_
              | refine A.box rfl rfl rfl ?_ | refine A.alloc rfl rfl rfl ?_ | refine A.store rfl rfl rfl rfl rfl ?_ | refine A.build rfl rfl rfl rfl ?_ | refine A.buildSlice rfl rfl rfl rfl rfl rfl rfl ?_
              | refine A.eqi rfl rfl ?_ | refine A.nei rfl rfl ?_ | refine A.lss rfl rfl ?_ | refine A.leq rfl rfl ?_ | refine A.gtr rfl rfl ?_ | refine A.geq rfl rfl ?_ | refine A.eqb rfl rfl rfl rfl ?_ | refine A.neb rfl rfl rfl rfl ?_ | refine A.eqs rfl rfl ?_ | refine A.nes rfl rfl ?_ | refine A.lts rfl rfl ?_ | refine A.gts rfl rfl ?_
              | refine A.not rfl ?_ | refine A.extract rfl rfl ?_ | refine A.add64 rfl rfl rfl (by omega) ?_ | refine A.sub64 rfl rfl rfl (by omega) ?_
              | refine A.vindex rfl rfl rfl rfl rfl rfl rfl (by assumption) (Nat.zero_add _) ?_ | refine A.vfield rfl rfl rfl rfl rfl rfl ?_ | refine A.vload rfl rfl rfl (by assumption) (by assumption) rfl ?_ | refine A.vlen rfl rfl rfl rfl ?_
            change HCode _ _ _ _ _ _ _
            refine HCode.loop (fun n s σ => ∃ j : Nat, n = (es ++ [(⟨ops[k].b, c0⟩ : Entry)]).length - j ∧ j ≤ (es ++ [(⟨ops[k].b, c0⟩ : Entry)]).length ∧ σ = ⟨[.cells [Tbls.enc (m'), .slice ((es ++ [(⟨ops[k].b, c0⟩ : Entry)]).map Entry.enc) (.own 1 7)]], [.vec Y, .len (es ++ [(⟨ops[k].b, c0⟩ : Entry)]).length, .len (es.length + 1), .vec Y2, .vec ((upto goneE (es ++ [(⟨ops[k].b, c0⟩ : Entry)]) j).map Entry.enc)]⟩ ∧
              s = [(20, .int .i64 j), (18, .vec 4 7 (es ++ [(⟨ops[k].b, c0⟩ : Entry)]).length 0 (es ++ [(⟨ops[k].b, c0⟩ : Entry)]).length), (10, .int .i64 k), (6, .ptr 0 0), (8, Tbls.enc (m')), (9, .slice ((es ++ [(⟨ops[k].b, c0⟩ : Entry)]).map Entry.enc) (.own 2 7)), (1, .slice (ops.map Ask.enc) .no)])
              (s0 := [(20, .int .i64 (0 : Nat)), (18, .vec 4 7 (es ++ [(⟨ops[k].b, c0⟩ : Entry)]).length 0 (es ++ [(⟨ops[k].b, c0⟩ : Entry)]).length), (10, .int .i64 k), (6, .ptr 0 0), (8, Tbls.enc (m')), (9, .slice ((es ++ [(⟨ops[k].b, c0⟩ : Entry)]).map Entry.enc) (.own 2 7)), (1, .slice (ops.map Ask.enc) .no)])
              ⟨rfl, rfl, rfl, rfl, rfl, rfl, rfl, trivial⟩ ⟨0, rfl, Nat.zero_le _, rfl, rfl⟩ ?_
            rintro n s σ ⟨q, rfl, hq, rfl, rfl⟩
            have hul2 : ((upto goneE (es ++ [(⟨ops[k].b, c0⟩ : Entry)]) q).map Entry.enc).length = (es ++ [(⟨ops[k].b, c0⟩ : Entry)]).length := by rw [List.length_map, upto_len]
            by_cases h3 : q < (es ++ [(⟨ops[k].b, c0⟩ : Entry)]).length
            · have d5 : decide ((q : Int) < (((es ++ [(⟨ops[k].b, c0⟩ : Entry)]).length : Nat) : Int)) = true := decide_eq_true (by omega)
              have x3 : ((upto goneE (es ++ [(⟨ops[k].b, c0⟩ : Entry)]) q).map Entry.enc)[q]? = some (es ++ [(⟨ops[k].b, c0⟩ : Entry)])[q].enc := by rw [List.getElem?_map, upto_get h3]; rfl
              have hidx : 0 + q < (es ++ [(⟨ops[k].b, c0⟩ : Entry)]).length := by omega
              have hset : ((upto goneE (es ++ [(⟨ops[k].b, c0⟩ : Entry)]) q).map Entry.enc).set q (goneE (es ++ [(⟨ops[k].b, c0⟩ : Entry)])[q]).enc = (upto goneE (es ++ [(⟨ops[k].b, c0⟩ : Entry)]) (q + 1)).map Entry.enc := by rw [map_set', upto_set h3]
              repeat' first
                | refine HCode.seq ?_ | refine HCode.region rfl ?_ | refine HCode.region_draw Lay.mix rfl ?_ | refine HCode.block ?_ | refine HCode.scope ?_ | refine HCode.skip ?_ | refine HCode.label ?_ | refine HCode.exit ?_ | refine HCode.ret ?_
                | refine HCode.cond_true rfl ?_ | refine HCode.cond_false rfl ?_ | refine HCode.cond_yes rfl (by assumption) ?_ | refine HCode.cond_no rfl (by assumption) ?_ | (refine HCode.cond rfl ?_ ?_ <;> intro hc)
                | refine A.nil_seq ?_ | refine A.nil (fun _ => rfl) ?_ | refine A.dead rfl ?_ | refine A.yes rfl rfl ?_ | refine A.no rfl rfl ?_ | refine A.yes rfl (by assumption) ?_ | refine A.no rfl (by assumption) ?_ | (refine A.guard rfl ?_ ?_ <;> intro hc)
                | refine A.move rfl ?_ | refine A.assign rfl ?_ | refine A.load_b rfl rfl rfl rfl ?_ | refine A.load_r rfl rfl rfl ?_ | refine A.field_b rfl rfl rfl rfl rfl rfl ?_ | refine A.field_r rfl rfl rfl rfl rfl rfl ?_ | refine A.field rfl rfl rfl rfl rfl ?_
                | refine A.index_r rfl rfl rfl rfl rfl rfl (by assumption) rfl ?_ | refine A.len rfl rfl rfl (by first | rw [List.length_map] | rfl) ?_ | refine A.lens rfl rfl rfl rfl ?_
                | refine A.pick_true rfl rfl rfl ?_ | refine A.pick_false rfl rfl rfl ?_ | refine A.pick_true rfl (by assumption) rfl ?_ | refine A.pick_false rfl (by assumption) rfl ?_
                | refine A.box rfl rfl rfl ?_ | refine A.alloc rfl rfl rfl ?_ | refine A.store rfl rfl rfl rfl rfl ?_ | refine A.build rfl rfl rfl rfl ?_ | refine A.buildSlice rfl rfl rfl rfl rfl rfl rfl ?_
                | refine A.eqi rfl rfl ?_ | refine A.nei rfl rfl ?_ | refine A.lss rfl rfl ?_ | refine A.leq rfl rfl ?_ | refine A.gtr rfl rfl ?_ | refine A.geq rfl rfl ?_ | refine A.eqb rfl rfl rfl rfl ?_ | refine A.neb rfl rfl rfl rfl ?_ | refine A.eqs rfl rfl ?_ | refine A.nes rfl rfl ?_ | refine A.lts rfl rfl ?_ | refine A.gts rfl rfl ?_
                | refine A.not rfl ?_ | refine A.extract rfl rfl ?_ | refine A.add64 rfl rfl rfl (by omega) ?_ | refine A.sub64 rfl rfl rfl (by omega) ?_
                | refine A.vindex rfl rfl rfl rfl rfl rfl rfl (by assumption) (Nat.zero_add _) ?_ | refine A.vfield rfl rfl rfl rfl rfl rfl ?_ | refine A.vload rfl rfl rfl (by assumption) (by assumption) rfl ?_ | refine A.vlen rfl rfl rfl rfl ?_ | refine A.vstore (agg := true) rfl rfl rfl rfl rfl (by assumption) (by assumption) rfl rfl rfl rfl ?_
              refine ⟨(es ++ [(⟨ops[k].b, c0⟩ : Entry)]).length - (q + 1), by omega, [(20, .int .i64 ((q + 1 : Nat) : Int)), (18, .vec 4 7 (es ++ [(⟨ops[k].b, c0⟩ : Entry)]).length 0 (es ++ [(⟨ops[k].b, c0⟩ : Entry)]).length), (10, .int .i64 k), (6, .ptr 0 0), (8, Tbls.enc (m')), (9, .slice ((es ++ [(⟨ops[k].b, c0⟩ : Entry)]).map Entry.enc) (.own 2 7)), (1, .slice (ops.map Ask.enc) .no)],
                ⟨rfl, rfl, rfl, rfl, rfl, rfl, rfl, trivial⟩, by simp [-List.map_append, belowS, AV.low, hlo, Entry.lowL, Tbls.enc, Tbl.lowL], ?_, q + 1, rfl, by omega, ?_, rfl⟩
              · show (belowB _ 5 [_] && belowT _ 5 [.vec Y, .len _, .len _, .vec Y2, .vec (((upto goneE (es ++ [(⟨ops[k].b, c0⟩ : Entry)]) q).map Entry.enc).set q (goneE (es ++ [(⟨ops[k].b, c0⟩ : Entry)])[q]).enc)]) = true
                rw [hset]
                simp [-List.map_append, belowB, belowT, Tok.low, Ob.low, AV.low, AV.lowL, Entry.lowL, Tbls.enc, Tbl.lowL, hYl', hY2l, Val.lv_low, Val.mv_low]
              · show (⟨_, [.vec Y, .len _, .len _, .vec Y2, .vec (((upto goneE (es ++ [(⟨ops[k].b, c0⟩ : Entry)]) q).map Entry.enc).set q (goneE (es ++ [(⟨ops[k].b, c0⟩ : Entry)])[q]).enc)]⟩ : St) = _
                rw [hset]
                rfl
            · have d5 : decide ((q : Int) < (((es ++ [(⟨ops[k].b, c0⟩ : Entry)]).length : Nat) : Int)) = false := decide_eq_false (by omega)
              repeat' first
                | refine HCode.seq ?_ | refine HCode.region rfl ?_ | refine HCode.region_draw Lay.mix rfl ?_ | refine HCode.block ?_ | refine HCode.scope ?_ | refine HCode.skip ?_ | refine HCode.label ?_ | refine HCode.exit ?_ | refine HCode.ret ?_
                | refine HCode.cond_true rfl ?_ | refine HCode.cond_false rfl ?_ | refine HCode.cond_yes rfl (by assumption) ?_ | refine HCode.cond_no rfl (by assumption) ?_ | (refine HCode.cond rfl ?_ ?_ <;> intro hc)
                | refine A.nil_seq ?_ | refine A.nil (fun _ => rfl) ?_ | refine A.dead rfl ?_ | refine A.yes rfl rfl ?_ | refine A.no rfl rfl ?_ | refine A.yes rfl (by assumption) ?_ | refine A.no rfl (by assumption) ?_ | (refine A.guard rfl ?_ ?_ <;> intro hc)
                | refine A.move rfl ?_ | refine A.assign rfl ?_ | refine A.load_b rfl rfl rfl rfl ?_ | refine A.load_r rfl rfl rfl ?_ | refine A.field_b rfl rfl rfl rfl rfl rfl ?_ | refine A.field_r rfl rfl rfl rfl rfl rfl ?_ | refine A.field rfl rfl rfl rfl rfl ?_
                | refine A.index_r rfl rfl rfl rfl rfl rfl (by assumption) rfl ?_ | refine A.len rfl rfl rfl (by first | rw [List.length_map] | rfl) ?_ | refine A.lens rfl rfl rfl rfl ?_
                | refine A.pick_true rfl rfl rfl ?_ | refine A.pick_false rfl rfl rfl ?_ | refine A.pick_true rfl (by assumption) rfl ?_ | refine A.pick_false rfl (by assumption) rfl ?_
                | refine A.box rfl rfl rfl ?_ | refine A.alloc rfl rfl rfl ?_ | refine A.store rfl rfl rfl rfl rfl ?_ | refine A.build rfl rfl rfl rfl ?_ | refine A.buildSlice rfl rfl rfl rfl rfl rfl rfl ?_
                | refine A.eqi rfl rfl ?_ | refine A.nei rfl rfl ?_ | refine A.lss rfl rfl ?_ | refine A.leq rfl rfl ?_ | refine A.gtr rfl rfl ?_ | refine A.geq rfl rfl ?_ | refine A.eqb rfl rfl rfl rfl ?_ | refine A.neb rfl rfl rfl rfl ?_ | refine A.eqs rfl rfl ?_ | refine A.nes rfl rfl ?_ | refine A.lts rfl rfl ?_ | refine A.gts rfl rfl ?_
                | refine A.not rfl ?_ | refine A.extract rfl rfl ?_ | refine A.add64 rfl rfl rfl (by omega) ?_ | refine A.sub64 rfl rfl rfl (by omega) ?_
                | refine A.vindex rfl rfl rfl rfl rfl rfl rfl (by assumption) (Nat.zero_add _) ?_ | refine A.vfield rfl rfl rfl rfl rfl rfl ?_ | refine A.vload rfl rfl rfl (by assumption) (by assumption) rfl ?_ | refine A.vlen rfl rfl rfl rfl ?_
              refine ⟨ops.length - (k + 1), by omega, [(10, .int .i64 ((k + 1 : Nat) : Int)), (6, .ptr 0 0), (8, Tbls.enc (m')), (9, .slice ((es ++ [(⟨ops[k].b, c0⟩ : Entry)]).map Entry.enc) (.own 2 7)), (1, .slice (ops.map Ask.enc) .no)], ⟨rfl, rfl, rfl, rfl, rfl, trivial⟩,
                by simp [-List.map_append, belowS, AV.low, hlo, Entry.lowL, Tbls.enc, Tbl.lowL], by simp [-List.map_append, belowB, belowT, Tok.low, Ob.low, AV.low, AV.lowL, Entry.lowL, Tbls.enc, Tbl.lowL, hYl', Val.lv_low, Val.mv_low], k + 1, _, _, m', es ++ [(⟨ops[k].b, c0⟩ : Entry)], rfl, by omega, hel2, hes2, hsl2, by omega, by omega, ?_, rfl⟩
              show (⟨_, [.vec Y, .len _, .len (es.length + 1)]⟩ : St) = _
              simp
        · have e1 : m' = (cmdG m ops[k].c).1 := by rw [hm']; unfold stepA; exact if_pos hdo
          have e2 : logOf ops[k] = (⟨b0, ops[k].c⟩ : Entry) := by unfold logOf; exact if_pos hdo
          rw [e2] at hE'
          have hx : Weak (.slice (es.map Entry.enc ++ [.agg [.str [], .slice [] .nil, .str ops[k].c.name, .str ops[k].c.table, .str ops[k].c.col, .str ops[k].c.typ, .slice (ops[k].c.args.map Mem.enc) .no]]) (.own 2 7)) (.slice (es'.map Entry.enc) (.own 2 7)) := by rw [hE']; exact own_snoc2 (e := (⟨b0, ops[k].c⟩ : Entry)) (Weak.agg (WeakL.cons (Weak.refl _) (WeakL.cons (Weak.no (WeakL.refl _)) (WeakL.refl _))))
          subst e1
          subst hE'
          repeat' first
            | refine HCode.less 9 rfl hx ?_
            | refine HCode.seq ?_ | refine HCode.region rfl ?_ | refine HCode.region_draw Lay.mix rfl ?_ | refine HCode.block ?_ | refine HCode.scope ?_ | refine HCode.skip ?_ | refine HCode.label ?_ | refine HCode.exit ?_ | refine HCode.ret ?_
            | refine HCode.cond_true rfl ?_ | refine HCode.cond_false rfl ?_ | refine HCode.cond_yes rfl (by assumption) ?_ | refine HCode.cond_no rfl (by assumption) ?_ | (refine HCode.cond rfl ?_ ?_ <;> intro hc)
            | refine A.nil_seq ?_ | refine A.nil (fun _ => rfl) ?_ | refine A.dead rfl ?_ | refine A.yes rfl rfl ?_ | refine A.no rfl rfl ?_ | refine A.yes rfl (by assumption) ?_ | refine A.no rfl (by assumption) ?_ | (refine A.guard rfl ?_ ?_ <;> intro hc)
            | refine A.move rfl ?_ | refine A.assign rfl ?_ | refine A.load_b rfl rfl rfl rfl ?_ | refine A.load_r rfl rfl rfl ?_ | refine A.field_b rfl rfl rfl rfl rfl rfl ?_ | refine A.field_r rfl rfl rfl rfl rfl rfl ?_ | refine A.field rfl rfl rfl rfl rfl ?_
            | refine A.index_r rfl rfl rfl rfl rfl rfl (by assumption) rfl ?_ | refine A.len rfl rfl rfl (by first | rw [List.length_map] | rfl) ?_ | refine A.lens rfl rfl rfl rfl ?_
            | refine A.pick_true rfl rfl rfl ?_ | refine A.pick_false rfl rfl rfl ?_ | refine A.pick_true rfl (by assumption) rfl ?_ | refine A.pick_false rfl (by assumption) rfl ?_
            | refine A.box rfl rfl rfl ?_ | refine A.alloc rfl rfl rfl ?_ | refine A.store rfl rfl rfl rfl rfl ?_ | refine A.build rfl rfl rfl rfl ?_ | refine A.buildSlice rfl rfl rfl rfl rfl rfl rfl ?_
            | refine A.eqi rfl rfl ?_ | refine A.nei rfl rfl ?_ | refine A.lss rfl rfl ?_ | refine A.leq rfl rfl ?_ | refine A.gtr rfl rfl ?_ | refine A.geq rfl rfl ?_ | refine A.eqb rfl rfl rfl rfl ?_ | refine A.neb rfl rfl rfl rfl ?_ | refine A.eqs rfl rfl ?_ | refine A.nes rfl rfl ?_ | refine A.lts rfl rfl ?_ | refine A.gts rfl rfl ?_
            | refine A.not rfl ?_ | refine A.extract rfl rfl ?_ | refine A.add64 rfl rfl rfl (by omega) ?_ | refine A.sub64 rfl rfl rfl (by omega) ?_
            | refine A.callS 0 rfl hds rfl rfl (by simp [AV.closedL, Cmd.closed]) (Tbls.closed _) (Tbls.closed _) (Entry.closedL _) (Entry.closedL _) (by simp [AV.closed, AV.closedL, Val.closed]) (WeakL.refl _) rfl rfl ?_
            | refine A.callS 0 rfl hgs rfl rfl (by simp [AV.closedL, Batch.closed]) (Tbls.closed _) (Tbls.closed _) (Entry.closedL _) (Entry.closedL _) gots_closed (WeakL.refl _) rfl rfl ?_
            | refine A.call rfl hrd (WeakL.refl _) ?_ | refine A.call rfl hrg (WeakL.refl _) ?_ | refine A.call rfl hsv (WeakL.refl _) ?_ | refine A.call rfl hgg (WeakL.refl _) ?_
            | refine A.callSV 0 rfl htv rfl rfl rfl (Tbls.closed _) (Entry.closedL _) (Tbl.closedL _) (WeakL.refl _) rfl rfl ?_ | refine A.callSV 0 rfl hlv rfl rfl rfl (Tbls.closed _) (Entry.closedL _) (Entry.closedL _) (WeakL.refl _) rfl rfl ?_
            | refine A.callB rfl hst (hlook1 rfl) rfl ?_ | refine A.callB rfl hsg (hlook2 rfl) rfl ?_
            | refine A.append (n := es.length) rfl rfl rfl rfl rfl rfl rfl rfl hel4 rfl (by dsimp only [List.length_cons, List.length_nil]; omega) (by dsimp only [List.length_cons, List.length_nil]; omega) rfl ?_
          change HCode _ _ _ _ _ _ _
          refine HCode.loop (fun n s σ => ∃ j : Nat, n = ((cmdG m ops[k].c).1).length - j ∧ j ≤ ((cmdG m ops[k].c).1).length ∧ σ = ⟨[.cells [Tbls.enc ((cmdG m ops[k].c).1), .slice ((es ++ [(⟨b0, ops[k].c⟩ : Entry)]).map Entry.enc) (.own 1 7)], .cells [.int .i64 (cmdG m ops[k].c).2.1.kind, .int .i64 (cmdG m ops[k].c).2.1.n, .str (cmdG m ops[k].c).2.1.s, .slice (cmdG m ops[k].c).2.1.lv .no, .slice (cmdG m ops[k].c).2.1.mv .no], .cells [.int .i64 (cmdG m ops[k].c).2.1.kind, .int .i64 (cmdG m ops[k].c).2.1.n, .str (cmdG m ops[k].c).2.1.s, .slice (cmdG m ops[k].c).2.1.lv .no, .slice (cmdG m ops[k].c).2.1.mv .no]], [.vec Y, .len (es ++ [(⟨b0, ops[k].c⟩ : Entry)]).length, .len (es.length + 1), .vec ((upto goneT ((cmdG m ops[k].c).1) j).map Tbl.enc), .vec ((es ++ [(⟨b0, ops[k].c⟩ : Entry)]).map Entry.enc)]⟩ ∧
            s = [(19, .int .i64 j), (17, .vec 3 2 ((cmdG m ops[k].c).1).length 0 ((cmdG m ops[k].c).1).length), (18, .vec 4 7 (es ++ [(⟨b0, ops[k].c⟩ : Entry)]).length 0 (es ++ [(⟨b0, ops[k].c⟩ : Entry)]).length), (10, .int .i64 k), (6, .ptr 0 0), (8, Tbls.enc ((cmdG m ops[k].c).1)), (9, .slice ((es ++ [(⟨b0, ops[k].c⟩ : Entry)]).map Entry.enc) (.own 2 7)), (1, .slice (ops.map Ask.enc) .no)])
            (s0 := [(19, .int .i64 (0 : Nat)), (17, .vec 3 2 ((cmdG m ops[k].c).1).length 0 ((cmdG m ops[k].c).1).length), (18, .vec 4 7 (es ++ [(⟨b0, ops[k].c⟩ : Entry)]).length 0 (es ++ [(⟨b0, ops[k].c⟩ : Entry)]).length), (10, .int .i64 k), (6, .ptr 0 0), (8, Tbls.enc ((cmdG m ops[k].c).1)), (9, .slice ((es ++ [(⟨b0, ops[k].c⟩ : Entry)]).map Entry.enc) (.own 2 7)), (1, .slice (ops.map Ask.enc) .no)])
            ⟨rfl, rfl, rfl, rfl, rfl, rfl, rfl, rfl, trivial⟩ ⟨0, rfl, Nat.zero_le _, rfl, rfl⟩ ?_
          rintro n s σ ⟨j, rfl, hj, rfl, rfl⟩
          have hul : ((upto goneT ((cmdG m ops[k].c).1) j).map Tbl.enc).length = ((cmdG m ops[k].c).1).length := by rw [List.length_map, upto_len]
          by_cases h2 : j < ((cmdG m ops[k].c).1).length
          · have d4 : decide ((j : Int) < ((((cmdG m ops[k].c).1).length : Nat) : Int)) = true := by simp [h2]
            have x2 : ((upto goneT ((cmdG m ops[k].c).1) j).map Tbl.enc)[j]? = some ((cmdG m ops[k].c).1)[j].enc := by rw [List.getElem?_map, upto_get h2]; rfl
            have hidx : 0 + j < ((cmdG m ops[k].c).1).length := by omega
            have hset : ((upto goneT ((cmdG m ops[k].c).1) j).map Tbl.enc).set j (goneT ((cmdG m ops[k].c).1)[j]).enc = (upto goneT ((cmdG m ops[k].c).1) (j + 1)).map Tbl.enc := by rw [map_set', upto_set h2]
            repeat' first
              | refine HCode.seq ?_ | refine HCode.region rfl ?_ | refine HCode.region_draw Lay.mix rfl ?_ | refine HCode.block ?_ | refine HCode.scope ?_ | refine HCode.skip ?_ | refine HCode.label ?_ | refine HCode.exit ?_ | refine HCode.ret ?_
              | refine HCode.cond_true rfl ?_ | refine HCode.cond_false rfl ?_ | refine HCode.cond_yes rfl (by assumption) ?_ | refine HCode.cond_no rfl (by assumption) ?_ | (refine HCode.cond rfl ?_ ?_ <;> intro hc)
              | refine A.nil_seq ?_ | refine A.nil (fun _ => rfl) ?_ | refine A.dead rfl ?_ | refine A.yes rfl rfl ?_ | refine A.no rfl rfl ?_ | refine A.yes rfl (by assumption) ?_ | refine A.no rfl (by assumption) ?_ | (refine A.guard rfl ?_ ?_ <;> intro hc)
              | refine A.move rfl ?_ | refine A.assign rfl ?_ | refine A.load_b rfl rfl rfl rfl ?_ | refine A.load_r rfl rfl rfl ?_ | refine A.field_b rfl rfl rfl rfl rfl rfl ?_ | refine A.field_r rfl rfl rfl rfl rfl rfl ?_ | refine A.field rfl rfl rfl rfl rfl ?_
              | refine A.index_r rfl rfl rfl rfl rfl rfl (by assumption) rfl ?_ | refine A.len rfl rfl rfl (by first | rw [List.length_map] | rfl) ?_ | refine A.lens rfl rfl rfl rfl ?_
              | refine A.pick_true rfl rfl rfl ?_ | refine A.pick_false rfl rfl rfl ?_ | refine A.pick_true rfl (by assumption) rfl ?_ | refine A.pick_false rfl (by assumption) rfl ?_
              | refine A.box rfl rfl rfl ?_ | refine A.alloc rfl rfl rfl ?_ | refine A.store rfl rfl rfl rfl rfl ?_ | refine A.build rfl rfl rfl rfl ?_ | refine A.buildSlice rfl rfl rfl rfl rfl rfl rfl ?_
              | refine A.eqi rfl rfl ?_ | refine A.nei rfl rfl ?_ | refine A.lss rfl rfl ?_ | refine A.leq rfl rfl ?_ | refine A.gtr rfl rfl ?_ | refine A.geq rfl rfl ?_ | refine A.eqb rfl rfl rfl rfl ?_ | refine A.neb rfl rfl rfl rfl ?_ | refine A.eqs rfl rfl ?_ | refine A.nes rfl rfl ?_ | refine A.lts rfl rfl ?_ | refine A.gts rfl rfl ?_
              | refine A.not rfl ?_ | refine A.extract rfl rfl ?_ | refine A.add64 rfl rfl rfl (by omega) ?_ | refine A.sub64 rfl rfl rfl (by omega) ?_
              | refine A.vindex rfl rfl rfl rfl rfl rfl rfl (by assumption) (Nat.zero_add _) ?_ | refine A.vfield rfl rfl rfl rfl rfl rfl ?_ | refine A.vload rfl rfl rfl (by assumption) (by assumption) rfl ?_ | refine A.vlen rfl rfl rfl rfl ?_ | refine A.vstore (agg := true) rfl rfl rfl rfl rfl (by assumption) (by assumption) rfl rfl rfl rfl ?_
            refine ⟨((cmdG m ops[k].c).1).length - (j + 1), by omega, [(19, .int .i64 ((j + 1 : Nat) : Int)), (17, .vec 3 2 ((cmdG m ops[k].c).1).length 0 ((cmdG m ops[k].c).1).length), (18, .vec 4 7 (es ++ [(⟨b0, ops[k].c⟩ : Entry)]).length 0 (es ++ [(⟨b0, ops[k].c⟩ : Entry)]).length), (10, .int .i64 k), (6, .ptr 0 0), (8, Tbls.enc ((cmdG m ops[k].c).1)), (9, .slice ((es ++ [(⟨b0, ops[k].c⟩ : Entry)]).map Entry.enc) (.own 2 7)), (1, .slice (ops.map Ask.enc) .no)],
              ⟨rfl, rfl, rfl, rfl, rfl, rfl, rfl, rfl, trivial⟩, by simp [-List.map_append, belowS, AV.low, hlo, Entry.lowL, Tbls.enc, Tbl.lowL], ?_, j + 1, rfl, by omega, ?_, rfl⟩
            · show (belowB _ 5 [_, .cells [.int .i64 (cmdG m ops[k].c).2.1.kind, .int .i64 (cmdG m ops[k].c).2.1.n, .str (cmdG m ops[k].c).2.1.s, .slice (cmdG m ops[k].c).2.1.lv .no, .slice (cmdG m ops[k].c).2.1.mv .no], .cells [.int .i64 (cmdG m ops[k].c).2.1.kind, .int .i64 (cmdG m ops[k].c).2.1.n, .str (cmdG m ops[k].c).2.1.s, .slice (cmdG m ops[k].c).2.1.lv .no, .slice (cmdG m ops[k].c).2.1.mv .no]] && belowT _ 5 [.vec Y, .len _, .len _, .vec (((upto goneT ((cmdG m ops[k].c).1) j).map Tbl.enc).set j (goneT ((cmdG m ops[k].c).1)[j]).enc), .vec _]) = true
              rw [hset]
              simp [-List.map_append, belowB, belowT, Tok.low, Ob.low, AV.low, AV.lowL, Entry.lowL, Tbls.enc, Tbl.lowL, hYl', Val.lv_low, Val.mv_low]
            · show (⟨_, [.vec Y, .len _, .len _, .vec (((upto goneT ((cmdG m ops[k].c).1) j).map Tbl.enc).set j (goneT ((cmdG m ops[k].c).1)[j]).enc), .vec _]⟩ : St) = _
              rw [hset]
              rfl
          · have d4 : decide ((j : Int) < ((((cmdG m ops[k].c).1).length : Nat) : Int)) = false := by simp; omega
            obtain ⟨Y2, hY2⟩ : ∃ Y2, Y2 = (upto goneT ((cmdG m ops[k].c).1) j).map Tbl.enc := ⟨_, rfl⟩
            have hY2l : ∀ a b, AV.lowL a b Y2 = true := fun a b => by rw [hY2]; exact Tbl.lowL a b _
            rw [← hY2]
            rw [← hY2] at hul
            repeat' first
              | refine HCode.seq ?_ | refine HCode.region rfl ?_ | refine HCode.region_draw Lay.mix rfl ?_ | refine HCode.block ?_ | refine HCode.scope ?_ | refine HCode.skip ?_ | refine HCode.label ?_ | refine HCode.exit ?_ | refine HCode.ret ?_
              | refine HCode.cond_true rfl ?_ | refine HCode.cond_false rfl ?_ | refine HCode.cond_yes rfl (by assumption) ?_ | refine HCode.cond_no rfl (by assumption) ?_ | (refine HCode.cond rfl ?_ ?_ <;> intro hc)
              | refine A.nil_seq ?_ | refine A.nil (fun _ => rfl) ?_ | refine A.dead rfl ?_ | refine A.yes rfl rfl ?_ | refine A.no rfl rfl ?_ | refine A.yes rfl (by assumption) ?_ | refine A.no rfl (by assumption) ?_ | (refine A.guard rfl ?_ ?_ <;> intro hc)
              | refine A.move rfl ?_ | refine A.assign rfl ?_ | refine A.load_b rfl rfl rfl rfl ?_ | refine A.load_r rfl rfl rfl ?_ | refine A.field_b rfl rfl rfl rfl rfl rfl ?_ | refine A.field_r rfl rfl rfl rfl rfl rfl ?_ | refine A.field rfl rfl rfl rfl rfl ?_
              | refine A.index_r rfl rfl rfl rfl rfl rfl (by assumption) rfl ?_ | refine A.len rfl rfl rfl (by first | rw [List.length_map] | rfl) ?_ | refine A.lens rfl rfl rfl rfl ?_
              | refine A.pick_true rfl rfl rfl ?_ | refine A.pick_false rfl rfl rfl ?_ | refine A.pick_true rfl (by assumption) rfl ?_ | refine A.pick_false rfl (by assumption) rfl ?_
              | refine A.box rfl rfl rfl ?_ | refine A.alloc rfl rfl rfl ?_ | refine A.store rfl rfl rfl rfl rfl ?_ | refine A.build rfl rfl rfl rfl ?_ | refine A.buildSlice rfl rfl rfl rfl rfl rfl rfl ?_
              | refine A.eqi rfl rfl ?_ | refine A.nei rfl rfl ?_ | refine A.lss rfl rfl ?_ | refine A.leq rfl rfl ?_ | refine A.gtr rfl rfl ?_ | refine A.geq rfl rfl ?_ | refine A.eqb rfl rfl rfl rfl ?_ | refine A.neb rfl rfl rfl rfl ?_ | refine A.eqs rfl rfl ?_ | refine A.nes rfl rfl ?_ | refine A.lts rfl rfl ?_ | refine A.gts rfl rfl ?_
              | refine A.not rfl ?_ | refine A.extract rfl rfl ?_ | refine A.add64 rfl rfl rfl (by omega) ?_ | refine A.sub64 rfl rfl rfl (by omega) ?_
              | refine A.vindex rfl rfl rfl rfl rfl rfl rfl (by assumption) (Nat.zero_add _) ?_ | refine A.vfield rfl rfl rfl rfl rfl rfl ?_ | refine A.vload rfl rfl rfl (by assumption) (by assumption) rfl ?_ | refine A.vlen rfl rfl rfl rfl ?_
            change HCode _ _ _ _ _ _ _
            refine HCode.loop (fun n s σ => ∃ j : Nat, n = (es ++ [(⟨b0, ops[k].c⟩ : Entry)]).length - j ∧ j ≤ (es ++ [(⟨b0, ops[k].c⟩ : Entry)]).length ∧ σ = ⟨[.cells [Tbls.enc ((cmdG m ops[k].c).1), .slice ((es ++ [(⟨b0, ops[k].c⟩ : Entry)]).map Entry.enc) (.own 1 7)], .cells [.int .i64 (cmdG m ops[k].c).2.1.kind, .int .i64 (cmdG m ops[k].c).2.1.n, .str (cmdG m ops[k].c).2.1.s, .slice (cmdG m ops[k].c).2.1.lv .no, .slice (cmdG m ops[k].c).2.1.mv .no], .cells [.int .i64 (cmdG m ops[k].c).2.1.kind, .int .i64 (cmdG m ops[k].c).2.1.n, .str (cmdG m ops[k].c).2.1.s, .slice (cmdG m ops[k].c).2.1.lv .no, .slice (cmdG m ops[k].c).2.1.mv .no]], [.vec Y, .len (es ++ [(⟨b0, ops[k].c⟩ : Entry)]).length, .len (es.length + 1), .vec Y2, .vec ((upto goneE (es ++ [(⟨b0, ops[k].c⟩ : Entry)]) j).map Entry.enc)]⟩ ∧
              s = [(20, .int .i64 j), (18, .vec 4 7 (es ++ [(⟨b0, ops[k].c⟩ : Entry)]).length 0 (es ++ [(⟨b0, ops[k].c⟩ : Entry)]).length), (10, .int .i64 k), (6, .ptr 0 0), (8, Tbls.enc ((cmdG m ops[k].c).1)), (9, .slice ((es ++ [(⟨b0, ops[k].c⟩ : Entry)]).map Entry.enc) (.own 2 7)), (1, .slice (ops.map Ask.enc) .no)])
              (s0 := [(20, .int .i64 (0 : Nat)), (18, .vec 4 7 (es ++ [(⟨b0, ops[k].c⟩ : Entry)]).length 0 (es ++ [(⟨b0, ops[k].c⟩ : Entry)]).length), (10, .int .i64 k), (6, .ptr 0 0), (8, Tbls.enc ((cmdG m ops[k].c).1)), (9, .slice ((es ++ [(⟨b0, ops[k].c⟩ : Entry)]).map Entry.enc) (.own 2 7)), (1, .slice (ops.map Ask.enc) .no)])
              ⟨rfl, rfl, rfl, rfl, rfl, rfl, rfl, trivial⟩ ⟨0, rfl, Nat.zero_le _, rfl, rfl⟩ ?_
            rintro n s σ ⟨q, rfl, hq, rfl, rfl⟩
            have hul2 : ((upto goneE (es ++ [(⟨b0, ops[k].c⟩ : Entry)]) q).map Entry.enc).length = (es ++ [(⟨b0, ops[k].c⟩ : Entry)]).length := by rw [List.length_map, upto_len]
            by_cases h3 : q < (es ++ [(⟨b0, ops[k].c⟩ : Entry)]).length
            · have d5 : decide ((q : Int) < (((es ++ [(⟨b0, ops[k].c⟩ : Entry)]).length : Nat) : Int)) = true := decide_eq_true (by omega)
              have x3 : ((upto goneE (es ++ [(⟨b0, ops[k].c⟩ : Entry)]) q).map Entry.enc)[q]? = some (es ++ [(⟨b0, ops[k].c⟩ : Entry)])[q].enc := by rw [List.getElem?_map, upto_get h3]; rfl
              have hidx : 0 + q < (es ++ [(⟨b0, ops[k].c⟩ : Entry)]).length := by omega
              have hset : ((upto goneE (es ++ [(⟨b0, ops[k].c⟩ : Entry)]) q).map Entry.enc).set q (goneE (es ++ [(⟨b0, ops[k].c⟩ : Entry)])[q]).enc = (upto goneE (es ++ [(⟨b0, ops[k].c⟩ : Entry)]) (q + 1)).map Entry.enc := by rw [map_set', upto_set h3]
              repeat' first
                | refine HCode.seq ?_ | refine HCode.region rfl ?_ | refine HCode.region_draw Lay.mix rfl ?_ | refine HCode.block ?_ | refine HCode.scope ?_ | refine HCode.skip ?_ | refine HCode.label ?_ | refine HCode.exit ?_ | refine HCode.ret ?_
                | refine HCode.cond_true rfl ?_ | refine HCode.cond_false rfl ?_ | refine HCode.cond_yes rfl (by assumption) ?_ | refine HCode.cond_no rfl (by assumption) ?_ | (refine HCode.cond rfl ?_ ?_ <;> intro hc)
                | refine A.nil_seq ?_ | refine A.nil (fun _ => rfl) ?_ | refine A.dead rfl ?_ | refine A.yes rfl rfl ?_ | refine A.no rfl rfl ?_ | refine A.yes rfl (by assumption) ?_ | refine A.no rfl (by assumption) ?_ | (refine A.guard rfl ?_ ?_ <;> intro hc)
                | refine A.move rfl ?_ | refine A.assign rfl ?_ | refine A.load_b rfl rfl rfl rfl ?_ | refine A.load_r rfl rfl rfl ?_ | refine A.field_b rfl rfl rfl rfl rfl rfl ?_ | refine A.field_r rfl rfl rfl rfl rfl rfl ?_ | refine A.field rfl rfl rfl rfl rfl ?_
                | refine A.index_r rfl rfl rfl rfl rfl rfl (by assumption) rfl ?_ | refine A.len rfl rfl rfl (by first | rw [List.length_map] | rfl) ?_ | refine A.lens rfl rfl rfl rfl ?_
                | refine A.pick_true rfl rfl rfl ?_ | refine A.pick_false rfl rfl rfl ?_ | refine A.pick_true rfl (by assumption) rfl ?_ | refine A.pick_false rfl (by assumption) rfl ?_
                | refine A.box rfl rfl rfl ?_ | refine A.alloc rfl rfl rfl ?_ | refine A.store rfl rfl rfl rfl rfl ?_ | refine A.build rfl rfl rfl rfl ?_ | refine A.buildSlice rfl rfl rfl rfl rfl rfl rfl ?_
                | refine A.eqi rfl rfl ?_ | refine A.nei rfl rfl ?_ | refine A.lss rfl rfl ?_ | refine A.leq rfl rfl ?_ | refine A.gtr rfl rfl ?_ | refine A.geq rfl rfl ?_ | refine A.eqb rfl rfl rfl rfl ?_ | refine A.neb rfl rfl rfl rfl ?_ | refine A.eqs rfl rfl ?_ | refine A.nes rfl rfl ?_ | refine A.lts rfl rfl ?_ | refine A.gts rfl rfl ?_
                | refine A.not rfl ?_ | refine A.extract rfl rfl ?_ | refine A.add64 rfl rfl rfl (by omega) ?_ | refine A.sub64 rfl rfl rfl (by omega) ?_
                | refine A.vindex rfl rfl rfl rfl rfl rfl rfl (by assumption) (Nat.zero_add _) ?_ | refine A.vfield rfl rfl rfl rfl rfl rfl ?_ | refine A.vload rfl rfl rfl (by assumption) (by assumption) rfl ?_ | refine A.vlen rfl rfl rfl rfl ?_ | refine A.vstore (agg := true) rfl rfl rfl rfl rfl (by assumption) (by assumption) rfl rfl rfl rfl ?_
              refine ⟨(es ++ [(⟨b0, ops[k].c⟩ : Entry)]).length - (q + 1), by omega, [(20, .int .i64 ((q + 1 : Nat) : Int)), (18, .vec 4 7 (es ++ [(⟨b0, ops[k].c⟩ : Entry)]).length 0 (es ++ [(⟨b0, ops[k].c⟩ : Entry)]).length), (10, .int .i64 k), (6, .ptr 0 0), (8, Tbls.enc ((cmdG m ops[k].c).1)), (9, .slice ((es ++ [(⟨b0, ops[k].c⟩ : Entry)]).map Entry.enc) (.own 2 7)), (1, .slice (ops.map Ask.enc) .no)],
                ⟨rfl, rfl, rfl, rfl, rfl, rfl, rfl, trivial⟩, by simp [-List.map_append, belowS, AV.low, hlo, Entry.lowL, Tbls.enc, Tbl.lowL], ?_, q + 1, rfl, by omega, ?_, rfl⟩
              · show (belowB _ 5 [_, .cells [.int .i64 (cmdG m ops[k].c).2.1.kind, .int .i64 (cmdG m ops[k].c).2.1.n, .str (cmdG m ops[k].c).2.1.s, .slice (cmdG m ops[k].c).2.1.lv .no, .slice (cmdG m ops[k].c).2.1.mv .no], .cells [.int .i64 (cmdG m ops[k].c).2.1.kind, .int .i64 (cmdG m ops[k].c).2.1.n, .str (cmdG m ops[k].c).2.1.s, .slice (cmdG m ops[k].c).2.1.lv .no, .slice (cmdG m ops[k].c).2.1.mv .no]] && belowT _ 5 [.vec Y, .len _, .len _, .vec Y2, .vec (((upto goneE (es ++ [(⟨b0, ops[k].c⟩ : Entry)]) q).map Entry.enc).set q (goneE (es ++ [(⟨b0, ops[k].c⟩ : Entry)])[q]).enc)]) = true
                rw [hset]
                simp [-List.map_append, belowB, belowT, Tok.low, Ob.low, AV.low, AV.lowL, Entry.lowL, Tbls.enc, Tbl.lowL, hYl', hY2l, Val.lv_low, Val.mv_low]
              · show (⟨_, [.vec Y, .len _, .len _, .vec Y2, .vec (((upto goneE (es ++ [(⟨b0, ops[k].c⟩ : Entry)]) q).map Entry.enc).set q (goneE (es ++ [(⟨b0, ops[k].c⟩ : Entry)])[q]).enc)]⟩ : St) = _
                rw [hset]
                rfl
            · have d5 : decide ((q : Int) < (((es ++ [(⟨b0, ops[k].c⟩ : Entry)]).length : Nat) : Int)) = false := decide_eq_false (by omega)
              repeat' first
                | refine HCode.seq ?_ | refine HCode.region rfl ?_ | refine HCode.region_draw Lay.mix rfl ?_ | refine HCode.block ?_ | refine HCode.scope ?_ | refine HCode.skip ?_ | refine HCode.label ?_ | refine HCode.exit ?_ | refine HCode.ret ?_
                | refine HCode.cond_true rfl ?_ | refine HCode.cond_false rfl ?_ | refine HCode.cond_yes rfl (by assumption) ?_ | refine HCode.cond_no rfl (by assumption) ?_ | (refine HCode.cond rfl ?_ ?_ <;> intro hc)
                | refine A.nil_seq ?_ | refine A.nil (fun _ => rfl) ?_ | refine A.dead rfl ?_ | refine A.yes rfl rfl ?_ | refine A.no rfl rfl ?_ | refine A.yes rfl (by assumption) ?_ | refine A.no rfl (by assumption) ?_ | (refine A.guard rfl ?_ ?_ <;> intro hc)
                | refine A.move rfl ?_ | refine A.assign rfl ?_ | refine A.load_b rfl rfl rfl rfl ?_ | refine A.load_r rfl rfl rfl ?_ | refine A.field_b rfl rfl rfl rfl rfl rfl ?_ | refine A.field_r rfl rfl rfl rfl rfl rfl ?_ | refine A.field rfl rfl rfl rfl rfl ?_
                | refine A.index_r rfl rfl rfl rfl rfl rfl (by assumption) rfl ?_ | refine A.len rfl rfl rfl (by first | rw [List.length_map] | rfl) ?_ | refine A.lens rfl rfl rfl rfl ?_
                | refine A.pick_true rfl rfl rfl ?_ | refine A.pick_false rfl rfl rfl ?_ | refine A.pick_true rfl (by assumption) rfl ?_ | refine A.pick_false rfl (by assumption) rfl ?_
                | refine A.box rfl rfl rfl ?_ | refine A.alloc rfl rfl rfl ?_ | refine A.store rfl rfl rfl rfl rfl ?_ | refine A.build rfl rfl rfl rfl ?_ | refine A.buildSlice rfl rfl rfl rfl rfl rfl rfl ?_
                | refine A.eqi rfl rfl ?_ | refine A.nei rfl rfl ?_ | refine A.lss rfl rfl ?_ | refine A.leq rfl rfl ?_ | refine A.gtr rfl rfl ?_ | refine A.geq rfl rfl ?_ | refine A.eqb rfl rfl rfl rfl ?_ | refine A.neb rfl rfl rfl rfl ?_ | refine A.eqs rfl rfl ?_ | refine A.nes rfl rfl ?_ | refine A.lts rfl rfl ?_ | refine A.gts rfl rfl ?_
                | refine A.not rfl ?_ | refine A.extract rfl rfl ?_ | refine A.add64 rfl rfl rfl (by omega) ?_ | refine A.sub64 rfl rfl rfl (by omega) ?_
                | refine A.vindex rfl rfl rfl rfl rfl rfl rfl (by assumption) (Nat.zero_add _) ?_ | refine A.vfield rfl rfl rfl rfl rfl rfl ?_ | refine A.vload rfl rfl rfl (by assumption) (by assumption) rfl ?_ | refine A.vlen rfl rfl rfl rfl ?_
              refine ⟨ops.length - (k + 1), by omega, [(10, .int .i64 ((k + 1 : Nat) : Int)), (6, .ptr 0 0), (8, Tbls.enc ((cmdG m ops[k].c).1)), (9, .slice ((es ++ [(⟨b0, ops[k].c⟩ : Entry)]).map Entry.enc) (.own 2 7)), (1, .slice (ops.map Ask.enc) .no)], ⟨rfl, rfl, rfl, rfl, rfl, trivial⟩,
                by simp [-List.map_append, belowS, AV.low, hlo, Entry.lowL, Tbls.enc, Tbl.lowL], by simp [-List.map_append, belowB, belowT, Tok.low, Ob.low, AV.low, AV.lowL, Entry.lowL, Tbls.enc, Tbl.lowL, hYl', Val.lv_low, Val.mv_low], k + 1, _, _, (cmdG m ops[k].c).1, es ++ [(⟨b0, ops[k].c⟩ : Entry)], rfl, by omega, hel2, hes2, hsl2, by omega, by omega, ?_, rfl⟩
              show (⟨_, [.vec Y, .len _, .len (es.length + 1)]⟩ : St) = _
              simp
      · have d3 : decide ((k : Int) < (ops.length : Int)) = false := by simp; omega
        repeat' first
          | refine HCode.seq ?_ | refine HCode.region rfl ?_ | refine HCode.region_draw Lay.mix rfl ?_ | refine HCode.block ?_ | refine HCode.scope ?_ | refine HCode.skip ?_ | refine HCode.label ?_ | refine HCode.exit ?_ | refine HCode.ret ?_
          | refine HCode.cond_true rfl ?_ | refine HCode.cond_false rfl ?_ | refine HCode.cond_yes rfl (by assumption) ?_ | refine HCode.cond_no rfl (by assumption) ?_ | (refine HCode.cond rfl ?_ ?_ <;> intro hc)
          | refine A.nil_seq ?_ | refine A.nil (fun _ => rfl) ?_ | refine A.dead rfl ?_ | refine A.yes rfl rfl ?_ | refine A.no rfl rfl ?_ | refine A.yes rfl (by assumption) ?_ | refine A.no rfl (by assumption) ?_ | (refine A.guard rfl ?_ ?_ <;> intro hc)
          | refine A.move rfl ?_ | refine A.assign rfl ?_ | refine A.load_b rfl rfl rfl rfl ?_ | refine A.load_r rfl rfl rfl ?_ | refine A.field_b rfl rfl rfl rfl rfl rfl ?_ | refine A.field_r rfl rfl rfl rfl rfl rfl ?_ | refine A.field rfl rfl rfl rfl rfl ?_
          | refine A.index_r rfl rfl rfl rfl rfl rfl (by assumption) rfl ?_ | refine A.len rfl rfl rfl (by first | rw [List.length_map] | rfl) ?_ | refine A.lens rfl rfl rfl rfl ?_
          | refine A.pick_true rfl rfl rfl ?_ | refine A.pick_false rfl rfl rfl ?_ | refine A.pick_true rfl (by assumption) rfl ?_ | refine A.pick_false rfl (by assumption) rfl ?_
          | refine A.box rfl rfl rfl ?_ | refine A.alloc rfl rfl rfl ?_ | refine A.store rfl rfl rfl rfl rfl ?_ | refine A.build rfl rfl rfl rfl ?_ | refine A.buildSlice rfl rfl rfl rfl rfl rfl rfl ?_
          | refine A.eqi rfl rfl ?_ | refine A.nei rfl rfl ?_ | refine A.lss rfl rfl ?_ | refine A.leq rfl rfl ?_ | refine A.gtr rfl rfl ?_ | refine A.geq rfl rfl ?_ | refine A.eqb rfl rfl rfl rfl ?_ | refine A.neb rfl rfl rfl rfl ?_ | refine A.eqs rfl rfl ?_ | refine A.nes rfl rfl ?_ | refine A.lts rfl rfl ?_ | refine A.gts rfl rfl ?_
          | refine A.not rfl ?_ | refine A.extract rfl rfl ?_ | refine A.add64 rfl rfl rfl (by omega) ?_ | refine A.sub64 rfl rfl rfl (by omega) ?_
          | refine A.call rfl n1 (WeakL.cons (Weak.refl _) (WeakL.cons (Weak.agg (WeakL.cons (Weak.refl _) (WeakL.cons (Weak.refl _) (WeakL.cons (Weak.refl _) (WeakL.cons (Weak.refl _) (WeakL.cons (Weak.no (WeakL.refl _)) (WeakL.refl _))))))) (WeakL.refl _))) ?_
          | refine A.call rfl n2 (WeakL.cons (Weak.refl _) (WeakL.cons (Weak.agg (WeakL.cons (Weak.refl _) (WeakL.cons (Weak.no (WeakL.refl _)) (WeakL.refl _)))) (WeakL.refl _))) ?_
          | refine A.call rfl n3 (WeakL.refl _) ?_ | refine A.call rfl n4 (WeakL.refl _) ?_ | refine A.add rfl rfl ?_ | refine A.call rfl hw (WeakL.refl _) ?_
        all_goals exact Fin.ret1 rfl (Weak.refl _)
  all_goals repeat' first
              | refine HCode.seq ?_ | refine HCode.region rfl ?_ | refine HCode.region_draw Lay.mix rfl ?_ | refine HCode.block ?_ | refine HCode.scope ?_ | refine HCode.skip ?_ | refine HCode.label ?_ | refine HCode.exit ?_ | refine HCode.ret ?_
              | refine HCode.cond_true rfl ?_ | refine HCode.cond_false rfl ?_ | refine HCode.cond_yes rfl (by assumption) ?_ | refine HCode.cond_no rfl (by assumption) ?_ | (refine HCode.cond rfl ?_ ?_ <;> intro hc)
              | refine A.nil_seq ?_ | refine A.nil (fun _ => rfl) ?_ | refine A.dead rfl ?_ | refine A.yes rfl rfl ?_ | refine A.no rfl rfl ?_ | refine A.yes rfl (by assumption) ?_ | refine A.no rfl (by assumption) ?_ | (refine A.guard rfl ?_ ?_ <;> intro hc)
              | refine A.move rfl ?_ | refine A.assign rfl ?_ | refine A.load_b rfl rfl rfl rfl ?_ | refine A.load_r rfl rfl rfl ?_ | refine A.field_b rfl rfl rfl rfl rfl rfl ?_ | refine A.field_r rfl rfl rfl rfl rfl rfl ?_ | refine A.field rfl rfl rfl rfl rfl ?_
              | refine A.index_r rfl rfl rfl rfl rfl rfl (by assumption) rfl ?_ | refine A.len rfl rfl rfl (by first | rw [List.length_map] | rfl) ?_ | refine A.lens rfl rfl rfl rfl ?_
              | refine A.pick_true rfl rfl rfl ?_ | refine A.pick_false rfl rfl rfl ?_ | refine A.pick_true rfl (by assumption) rfl ?_ | refine A.pick_false rfl (by assumption) rfl ?_
              | refine A.box rfl rfl rfl ?_ | refine A.alloc rfl rfl rfl ?_ | refine A.store rfl rfl rfl rfl rfl ?_ | refine A.build rfl rfl rfl rfl ?_ | refine A.buildSlice rfl rfl rfl rfl rfl rfl rfl ?_
              | refine A.eqi rfl rfl ?_ | refine A.nei rfl rfl ?_ | refine A.lss rfl rfl ?_ | refine A.leq rfl rfl ?_ | refine A.gtr rfl rfl ?_ | refine A.geq rfl rfl ?_ | refine A.eqb rfl rfl rfl rfl ?_ | refine A.neb rfl rfl rfl rfl ?_ | refine A.eqs rfl rfl ?_ | refine A.nes rfl rfl ?_ | refine A.lts rfl rfl ?_ | refine A.gts rfl rfl ?_
              | refine A.not rfl ?_ | refine A.extract rfl rfl ?_ | refine A.add64 rfl rfl rfl (by omega) ?_ | refine A.sub64 rfl rfl rfl (by omega) ?_
              | refine A.call rfl hl (WeakL.refl _) ?_ | refine A.call rfl hL (WeakL.refl _) ?_ | refine A.call rfl hw (WeakL.refl _) ?_
  all_goals exact Fin.ret1 rfl (Weak.refl _)
end Go.Proofs.Ytajddgpkflbnaaa
