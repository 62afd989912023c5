/-
  The law LiteralSpots.
-/
import Derived.Test.YtijlmchfepjjkaaGreatDoorMLawLit
import Derived.Test.YtijlmchfepjjkaaGreatDoorMSpots9
import Derived.Test.YtijlmchfepjjkaaGreatDoorMRef9b
import Derived.Test.YtijlmchfepjjkaaGreatDoorMBase0
namespace Go.Av
open Go
set_option maxRecDepth 100000
section
variable [Globals]
variable {P : Program} [Lay P]
def eqFs2 (P : Program) [Lay P] (U : TypeId) (us : List Field) (n : Nat) : List Field → Nat → List AV → List AV → Option Bool
  | [], _, [], [] => some true
  | [], _, _, _ => none
  | f :: fs, i, xs, ys => if Nat.beq f.offset i = true then
      if Nat.beq f.type U = true then (match eqFs P us 0 (xs.take n) (ys.take n), eqFs2 P U us n fs (i + n) (xs.drop n) (ys.drop n) with | some a, some b => some (a && b) | _, _ => none)
      else (match ty? P f.type, xs, ys with
        | some ti, x :: xs', y :: ys' => (match ti.agg, eqCell ti.kind x y, eqFs2 P U us n fs (i + 1) xs' ys' with
          | false, some b, some r => some (b && r)
          | _, _, _ => none)
        | _, _, _ => none)
    else none
theorem eqFs2_spec {g : Gh} {w : World} {as1 bs1 : Array Value} {U : TypeId} {us : List Field} {m : Nat} {ti : TI} (hU : EqT P U us) (ha : ty? P U = some ti) (hg : ti.agg = true) (hz : ti.size = m) (n : Nat) : ∀ (fs : List Field) (i : Nat) (xs ys : List AV) (b : Bool), (fs.all fun f => f.name != "_") = true → eqFs2 P U us m fs i xs ys = some b → RepL g w xs (as1.toList.drop i) → RepL g w ys (bs1.toList.drop i) →
    ((forIn fs ((none : Option Bool), ()) fun f __s =>
                if f.name ≠ "_" then do
                  let a ← part f.type as1 f.offset
                  let c ← part f.type bs1 f.offset
                  let e ← Op.equalIn (n + 2) f.type a c
                  if (!e) = true then pure (ForInStep.done (some false, ()))
                    else pure (ForInStep.yield (none, ()))
                else pure (ForInStep.yield (none, ()))) : Sem (Option Bool × Unit)).run P w = .ok (if b then none else some false, ()) w
  | [], i, [], [], b, _, h, _, _ => by
    cases h
    simp
  | f :: fs, i, xs, ys, b, hn, h, hx, hy => by
    simp only [List.all_cons, Bool.and_eq_true] at hn
    have hne : f.name ≠ "_" := by simpa using hn.1
    unfold eqFs2 at h
    split at h
    case isFalse => cases h
    case isTrue e1 =>
    have ho := Nat.eq_of_beq_eq_true e1
    split at h
    case isTrue e2 =>
      have hu := Nat.eq_of_beq_eq_true e2
      split at h
      case h_2 => cases h
      case h_1 a r e3 e4 =>
      cases h
      have pz : ∀ (cs : Array Value), (part f.type cs f.offset).run P w = .ok (.agg (cs.extract i (i + m))) w := fun cs => by
        unfold part
        rw [hu, ho]
        simp only [Sem.run_bind, run_isAgg' ha, Result.andThen, hg, if_true, run_sizeOf' ha, hz, Sem.run_pure]
      have d1 : (as1.extract i (i + m)).toList.drop 0 = (as1.toList.drop i).take m := by rw [Array.toList_extract, List.extract_eq_take_drop, Nat.add_sub_cancel_left]; rfl
      have d2 : (bs1.extract i (i + m)).toList.drop 0 = (bs1.toList.drop i).take m := by rw [Array.toList_extract, List.extract_eq_take_drop, Nat.add_sub_cancel_left]; rfl
      have h3 := eqFs_spec (us := as1.extract i (i + m)) (vs := bs1.extract i (i + m)) n us 0 _ _ a hU.named e3 (by rw [d1]; exact hx.take m) (by rw [d2]; exact hy.take m)
      have h1 : (Op.equalIn (n + 2) f.type (.agg (as1.extract i (i + m))) (.agg (bs1.extract i (i + m)))).run P w = .ok a w := by
        rw [hu, Op.equalIn]
        simp only [Sem.run_bind, run_underlying hU.u, Result.andThen, run_program, hU.held, Bool.false_eq_true, if_false, List.forIn_toArray]
        rw [h3]
        cases a <;> simp
      have ih := eqFs2_spec hU ha hg hz n fs (i + m) _ _ r hn.2 e4 (by rw [← List.drop_drop]; exact hx.drop m) (by rw [← List.drop_drop]; exact hy.drop m)
      rw [List.forIn_cons]
      simp only [if_pos hne, Sem.run_bind, pz, h1, Result.andThen]
      cases a with
      | true =>
        simp only [Bool.not_true, Bool.false_eq_true, if_false, Sem.run_pure, Bool.true_and]
        exact ih
      | false => simp
    case isFalse e2 =>
      split at h
      case h_2 => cases h
      case h_1 t2 x xs y ys ea =>
      split at h
      case h_2 => cases h
      case h_1 b1 r ea' e3 e4 =>
      obtain ⟨u, ur, hu1, hu2, hu3⟩ := hx
      obtain ⟨v, vr, hv1, hv2, hv3⟩ := hy
      have gu : as1[f.offset]? = some u := by
        have : (as1.toList.drop i)[0]? = some u := by rw [hu1]; rfl
        rw [ho]; simpa using this
      have gv : bs1[f.offset]? = some v := by
        have : (bs1.toList.drop i)[0]? = some v := by rw [hv1]; rfl
        rw [ho]; simpa using this
      obtain ⟨info, dd, z0, t1, q2, q3, q4, _⟩ := (ty_ok ea).ex
      have h1 := eqCell_spec q2 q3 e3 hu2 hv2 (n + 1)
      have d1 : as1.toList.drop (i + 1) = ur := by rw [← List.drop_drop, hu1]; rfl
      have d2 : bs1.toList.drop (i + 1) = vr := by rw [← List.drop_drop, hv1]; rfl
      have ih := eqFs2_spec hU ha hg hz n fs (i + 1) xs ys r hn.2 e4 (by rw [d1]; exact hu3) (by rw [d2]; exact hv3)
      cases h
      rw [List.forIn_cons]
      simp only [if_pos hne, Sem.run_bind, run_part ea ea' gu, run_part ea ea' gv, h1, Result.andThen]
      cases b1 with
      | true =>
        simp only [Bool.not_true, Bool.false_eq_true, if_false, Sem.run_pure, Bool.true_and]
        exact ih
      | false => simp
  | [], _, _ :: _, _, _, _, h, _, _ => by cases h
  | [], _, [], _ :: _, _, _, h, _, _ => by cases h
theorem run_equal2 {T U : TypeId} {fs us : List Field} {m : Nat} {ti : TI} (hT : EqT P T fs) (hU : EqT P U us) (ha : ty? P U = some ti) (hg : ti.agg = true) (hz : ti.size = m) {g : Gh} {w : World} {xs ys : List AV} {u v : Value} {b : Bool} (h : eqFs2 P U us m fs 0 xs ys = some b) (hx : Rep g w (.agg xs) u) (hy : Rep g w (.agg ys) v) : (Op.equal T u v).run P w = .ok b w := by
  obtain ⟨as1, rfl, h1, _⟩ := hx
  obtain ⟨bs1, rfl, h2, _⟩ := hy
  have h3 := eqFs2_spec (as1 := as1) (bs1 := bs1) hU ha hg hz 9997 fs 0 xs ys b hT.named h (by simpa using h1) (by simpa using h2)
  unfold Op.equal Op.maxDepth
  rw [Op.equalIn]
  simp only [Sem.run_bind, run_underlying hT.u, Result.andThen, run_program, hT.held, Bool.false_eq_true, if_false, List.forIn_toArray]
  rw [h3]
  cases b <;> simp
variable {all : Array Oper} {draw : Bool} {K : AX → Slots → St → Prop} {rest : List Oper} {acc : List Tag} {s : Slots} {σ : St}
variable {d : Tmp} {ty : TypeId} {pos : String} {af : Array Edge}
theorem A.eqT2 {T U W : TypeId} {x y : Operand} {xs ys : List AV} {fs us : List Field} {m : Nat} {ti : TI} {b : Bool} (hT : EqT P T fs) (hU : EqT P U us) (ha : ty? P U = some ti) (hg : ti.agg = true) (hz : ti.size = m) (hx : ev? s x = some (.agg xs)) (hy : ev? s y = some (.agg ys)) (h : eqFs2 P U us m fs 0 xs ys = some b) (k : AOps P all draw K rest (.pure :: acc) ((d, .bool (b)) :: s) σ) :
    AOps P all draw K (⟨some d, .binOp .eql T x y W, ty, pos, af, none⟩ :: rest) acc s σ :=
  A.step rfl (tpure fun g w a ho => by
    have h1 := op1 hx (by simp [Op.operands]) ho
    have h2 := op1 hy (by simp [Op.operands]) ho
    have h3 := run_equal2 hT hU ha hg hz h h1 h2
    obtain ⟨as1, e1, _⟩ := h1
    obtain ⟨bs1, e2, _⟩ := h2
    rw [e1, e2] at h3
    exact ⟨.bool (b), by simp [execOp, e1, e2, run_guard hT, Go.binOp, h3, Result.andThen], rfl⟩) k
theorem A.neT2 {T U W : TypeId} {x y : Operand} {xs ys : List AV} {fs us : List Field} {m : Nat} {ti : TI} {b : Bool} (hT : EqT P T fs) (hU : EqT P U us) (ha : ty? P U = some ti) (hg : ti.agg = true) (hz : ti.size = m) (hx : ev? s x = some (.agg xs)) (hy : ev? s y = some (.agg ys)) (h : eqFs2 P U us m fs 0 xs ys = some b) (k : AOps P all draw K rest (.pure :: acc) ((d, .bool (!b)) :: s) σ) :
    AOps P all draw K (⟨some d, .binOp .neq T x y W, ty, pos, af, none⟩ :: rest) acc s σ :=
  A.step rfl (tpure fun g w a ho => by
    have h1 := op1 hx (by simp [Op.operands]) ho
    have h2 := op1 hy (by simp [Op.operands]) ho
    have h3 := run_equal2 hT hU ha hg hz h h1 h2
    obtain ⟨as1, e1, _⟩ := h1
    obtain ⟨bs1, e2, _⟩ := h2
    rw [e1, e2] at h3
    exact ⟨.bool (!b), by simp [execOp, e1, e2, run_guard hT, Go.binOp, h3, Result.andThen], rfl⟩) k
end
end Go.Av
namespace Go.Proofs.YtijlmchfepjjkaaGreatDoor
open Go Go.Av
set_option maxRecDepth 100000
set_option maxHeartbeats 16000000
set_option linter.unusedVariables false
set_option linter.unusedSimpArgs false
attribute [local irreducible] HCode AOps PFn AFn Av.Step TStep

def spotFs : List Field := [{ name := "Var", type := 9, offset := 0, embedded := false, tag := "", pkgPath := "", byteOffset := 0 }, { name := "T", type := 26, offset := 1, embedded := false, tag := "", pkgPath := "", byteOffset := 16 }, { name := "Has", type := 4, offset := 4, embedded := false, tag := "", pkgPath := "", byteOffset := 48 }]
def typeFs : List Field := [{ name := "Name", type := 9, offset := 0, embedded := false, tag := "", pkgPath := "", byteOffset := 0 }, { name := "Lists", type := 3, offset := 1, embedded := false, tag := "", pkgPath := "", byteOffset := 16 }, { name := "Musts", type := 3, offset := 2, embedded := false, tag := "", pkgPath := "", byteOffset := 24 }]
theorem eq_spot : EqT Tryz.prog 66 spotFs := ⟨Tryz.underlying66, by kernel_rfl, by kernel_rfl, by decide⟩
theorem eq_type : EqT Tryz.prog 26 typeFs := ⟨Tryz.underlying26, by kernel_rfl, by kernel_rfl, by decide⟩
theorem kSameSpots (l : List Spt) (hl : l.length ≤ 9223372036854775807) : PFn Tryz.prog 9 [.slice (l.map Spt.enc) .no, .slice (l.map Spt.enc) .no] (.bool true) := by
  refine AFn.plain rfl (by simp [AV.closed, AV.closedL, Spt.closedL]) (AFn.enter [4] Tryz.func9 rfl rfl rfl rfl rfl (by decide) ?_)
  have e0 : ((l.length : Int) != (l.length : Int)) = false := by simp
  repeat' first
    | refine .seq ?_ | refine .rg ?_ | refine .rd ?_ | refine .block ?_ | refine .scope ?_ | refine .skip ?_ | refine .label ?_ | refine .exit ?_ | refine .ret ?_
    | refine .ct ?_ | refine .cf ?_ | refine .cy ?_ | refine .cn ?_ | (refine .cond rfl ?_ ?_ <;> intro hc)
    | refine A.nil_seq ?_ | refine .nl ?_ | refine .dd ?_ | refine .ys ?_ | refine .no ?_ | (refine A.guard rfl ?_ ?_ <;> intro hc)
    | refine .lb ?_ | refine .ln ?_ | refine .ls ?_ | refine .pv ?_ | refine .ix ?_ | refine .pt ?_ | refine .pf ?_ | refine .bx ?_ | refine .al ?_ | refine .st ?_ | refine .ad ?_ | refine .sb ?_ | refine .mf ?_ | refine .cl ?_ | refine .cw ?_ | refine .ck ?_ | fail
  refine HCode.forK l.length (fun k => [(5, .int .i64 k), (0, .slice (l.map Spt.enc) .no), (1, .slice (l.map Spt.enc) .no)])
    (fun _ => ⟨[], []⟩) (fun _ => True) ⟨rfl, rfl, rfl, trivial⟩ rfl trivial fun k hk _ => ?_
  by_cases h1 : k < l.length
  · have d1 : decide ((k : Int) < (l.length : Int)) = true := by simp [h1]
    have x1 := map_get' (f := Spt.enc) h1
    have hb : ∀ x : Spt, eqFs2 Tryz.prog 26 typeFs 3 spotFs 0 [.str x.var, .str x.t.name, .int .i64 x.t.lists, .int .i64 x.t.musts, .bool x.has] [.str x.var, .str x.t.name, .int .i64 x.t.lists, .int .i64 x.t.musts, .bool x.has] = some true := fun x => by
      have a1 : (x.var == x.var) = true := by simp
      have a2 : (x.t.name == x.t.name) = true := by simp
      have a3 : (x.t.lists == x.t.lists) = true := by simp
      have a4 : (x.t.musts == x.t.musts) = true := by simp
      have a5 : (x.has == x.has) = true := by simp
      have e : eqFs2 Tryz.prog 26 typeFs 3 spotFs 0 [.str x.var, .str x.t.name, .int .i64 x.t.lists, .int .i64 x.t.musts, .bool x.has] [.str x.var, .str x.t.name, .int .i64 x.t.lists, .int .i64 x.t.musts, .bool x.has] = some ((x.var == x.var) && (((x.t.name == x.t.name) && ((x.t.lists == x.t.lists) && ((x.t.musts == x.t.musts) && true))) && ((x.has == x.has) && true))) := rfl
      rw [e, a1, a2, a3, a4, a5]; rfl
    have hbk := hb l[k]
    repeat' first
      | refine .seq ?_ | refine .rg ?_ | refine .rd ?_ | refine .block ?_ | refine .scope ?_ | refine .skip ?_ | refine .label ?_ | refine .exit ?_ | refine .ret ?_
      | refine .ct ?_ | refine .cf ?_ | refine .cy ?_ | refine .cn ?_ | (refine .cond rfl ?_ ?_ <;> intro hc)
      | refine A.nil_seq ?_ | refine .nl ?_ | refine .dd ?_ | refine .ys ?_ | refine .no ?_ | (refine A.guard rfl ?_ ?_ <;> intro hc)
      | refine .lb ?_ | refine .ln ?_ | refine .ls ?_ | refine .pv ?_ | refine .ix ?_ | refine .pt ?_ | refine .pf ?_ | refine .bx ?_ | refine .al ?_ | refine .st ?_ | refine .ad ?_ | refine .sb ?_ | refine .mf ?_ | refine .cl ?_ | refine .cw ?_ | refine .ck ?_
      | refine A.neT2 eq_spot eq_type rfl rfl rfl rfl rfl hbk ?_ | fail
    exact ⟨h1, ⟨rfl, rfl, rfl, trivial⟩, by simp [belowS, AV.low], rfl, rfl, trivial⟩
  · have d1 : decide ((k : Int) < (l.length : Int)) = false := by simp; omega
    repeat' first
      | refine .seq ?_ | refine .rg ?_ | refine .rd ?_ | refine .block ?_ | refine .scope ?_ | refine .skip ?_ | refine .label ?_ | refine .exit ?_ | refine .ret ?_
      | refine .ct ?_ | refine .cf ?_ | refine .cy ?_ | refine .cn ?_ | (refine .cond rfl ?_ ?_ <;> intro hc)
      | refine A.nil_seq ?_ | refine .nl ?_ | refine .dd ?_ | refine .ys ?_ | refine .no ?_ | (refine A.guard rfl ?_ ?_ <;> intro hc)
      | refine .lb ?_ | refine .ln ?_ | refine .ls ?_ | refine .pv ?_ | refine .ix ?_ | refine .pt ?_ | refine .pf ?_ | refine .bx ?_ | refine .al ?_ | refine .st ?_ | refine .ad ?_ | refine .sb ?_ | refine .mf ?_ | refine .cl ?_ | refine .cw ?_ | refine .ck ?_ | fail
    exact Fin.ret1 rfl (Weak.refl _)
theorem literalSpots (s : Sch) (t : Typ) (has : Bool) (v : Val) (h : s.size + t.size + 1 + v.size ≤ 1048576) : PFn Tryz.prog 3 [s.enc, t.enc, .bool has, v.enc] (.bool true) := by
  have hts : t.size = t.name.length + 4 := rfl
  have hl := light10 s v (by omega) (by omega)
  have hw := awake10
  have q1 := rRight9 s t v (by omega) (by omega) (by omega)
  refine AFn.plain rfl (by simp [AV.closed, AV.closedL, Sch.closed, Val.closed, Typ.closed]) (AFn.enter [8] Tryz.func3 rfl rfl rfl rfl rfl (by decide) ?_)
  cases c1 : lightB s v with
  | false =>
    rw [c1] at hl
    repeat' first
      | refine .br ?_
      | refine .seq ?_ | refine .rg ?_ | refine .rd ?_ | refine .block ?_ | refine .scope ?_ | refine .skip ?_ | refine .label ?_ | refine .exit ?_ | refine .ret ?_
      | refine .ct ?_ | refine .cf ?_ | refine .cy ?_ | refine .cn ?_ | (refine .cond rfl ?_ ?_ <;> intro hc)
      | refine A.nil_seq ?_ | refine .nl ?_ | refine .dd ?_ | refine .ys ?_ | refine .no ?_ | (refine A.guard rfl ?_ ?_ <;> intro hc)
      | refine .lb ?_ | refine .ln ?_ | refine .ls ?_ | refine .pv ?_ | refine .ix ?_ | refine .pt ?_ | refine .pf ?_ | refine .bx ?_ | refine .al ?_ | refine .st ?_ | refine .ad ?_ | refine .sb ?_ | refine .mf ?_ | refine .cl ?_ | refine .cw ?_ | refine .ck ?_ | fail
    exact Fin.ret1 rfl (Weak.refl _)
  | true =>
    rw [c1] at hl
    cases c2 : litR s t v with
    | false =>
      rw [c2] at q1
      repeat' first
        | refine .br ?_
        | refine .seq ?_ | refine .rg ?_ | refine .rd ?_ | refine .block ?_ | refine .scope ?_ | refine .skip ?_ | refine .label ?_ | refine .exit ?_ | refine .ret ?_
        | refine .ct ?_ | refine .cf ?_ | refine .cy ?_ | refine .cn ?_ | (refine .cond rfl ?_ ?_ <;> intro hc)
        | refine A.nil_seq ?_ | refine .nl ?_ | refine .dd ?_ | refine .ys ?_ | refine .no ?_ | (refine A.guard rfl ?_ ?_ <;> intro hc)
        | refine .lb ?_ | refine .ln ?_ | refine .ls ?_ | refine .pv ?_ | refine .ix ?_ | refine .pt ?_ | refine .pf ?_ | refine .bx ?_ | refine .al ?_ | refine .st ?_ | refine .ad ?_ | refine .sb ?_ | refine .mf ?_ | refine .cl ?_ | refine .cw ?_ | refine .ck ?_ | fail
      exact Fin.ret1 rfl (Weak.refl _)
    | true =>
      rw [c2] at q1
      have hf : fitsV s v t false = true := by unfold litR at c2; rw [Bool.and_eq_true] at c2; exact c2.2
      have hse := spots_eq s v t false has hf
      have hsp := lSpots s (by omega) 2097152 (Nat.le_refl _) v (by omega) _ t has rfl (by omega)
      have hsr := rSpots s (by omega) 1048576 (Nat.le_refl _) v (by omega) _ t has rfl (by omega)
      have hlen := spotsP_len s v t has
      rw [hse] at hsr
      generalize spotsP s v t has = sp at hsp hsr hlen
      have hst := kSameSpots sp (by omega)
      repeat' first
        | refine .br ?_
        | refine .seq ?_ | refine .rg ?_ | refine .rd ?_ | refine .block ?_ | refine .scope ?_ | refine .skip ?_ | refine .label ?_ | refine .exit ?_ | refine .ret ?_
        | refine .ct ?_ | refine .cf ?_ | refine .cy ?_ | refine .cn ?_ | (refine .cond rfl ?_ ?_ <;> intro hc)
        | refine A.nil_seq ?_ | refine .nl ?_ | refine .dd ?_ | refine .ys ?_ | refine .no ?_ | (refine A.guard rfl ?_ ?_ <;> intro hc)
        | refine .lb ?_ | refine .ln ?_ | refine .ls ?_ | refine .pv ?_ | refine .ix ?_ | refine .pt ?_ | refine .pf ?_ | refine .bx ?_ | refine .al ?_ | refine .st ?_ | refine .ad ?_ | refine .sb ?_ | refine .mf ?_ | refine .cl ?_ | refine .cw ?_ | refine .ck ?_ | fail
      exact Fin.ret1 rfl (Weak.refl _)
end Go.Proofs.YtijlmchfepjjkaaGreatDoor
