/-
  The reference: Spots.
-/
import Derived.Test.YtijlmchfepjjkaaGreatDoorMSpots
import Derived.Test.YtijlmchfepjjkaaGreatDoorMRef9
namespace Go.Proofs.YtijlmchfepjjkaaGreatDoor
open Go Go.Av
set_option maxRecDepth 100000
set_option maxHeartbeats 16000000
set_option linter.unusedVariables false
set_option linter.unusedSimpArgs false
attribute [local irreducible] HCode AOps PFn AFn Av.Step TStep

theorem spotsR_eq (s : Sch) (v : Val) (t : Typ) (has : Bool) : spotsR s v t has = if v.kind = 8 then [⟨v.s, t, has⟩] else if v.kind = 6 then (if rightT t = true ∧ t.lists ≠ 0 then spotsRL s v.l (itemT t) else []) else if v.kind = 7 then spotsRM s v.m (findR s t.name).1.params else [] := by
  cases v; rw [spotsR]; rfl
theorem spotsR_down {s : Sch} {v : Val} {t : Typ} {has : Bool} (h8 : v.kind ≠ 8) (h6 : v.kind ≠ 6) : spotsR s v t has = spotsR s v (itemT t) false := by
  rw [spotsR_eq, spotsR_eq, if_neg h8, if_neg h8, if_neg h6, if_neg h6]; rfl
mutual
theorem spotsR_len (s : Sch) : ∀ (v : Val) (t : Typ) (has : Bool), (spotsR s v t has).length ≤ v.size
  | .mk k n str l m, t, has => by
    have h1 := spotsRL_len s l (itemT t)
    have h2 := spotsRM_len s m (findR s t.name).1.params
    rw [spotsR, Val.size]
    split
    · simp
    · split
      · split
        · omega
        · simp
      · split
        · omega
        · simp
theorem spotsRL_len (s : Sch) : ∀ (l : List Val) (t : Typ), (spotsRL s l t).length ≤ Val.sizeL l
  | [], _ => by rw [spotsRL]; simp
  | v :: l, t => by
    have h1 := spotsR_len s v t false
    have h2 := spotsRL_len s l t
    rw [spotsRL, Val.sizeL, List.length_append]; omega
theorem spotsRM_len (s : Sch) : ∀ (m : List Mem) (ps : List Par), (spotsRM s m ps).length ≤ Val.sizeM m
  | [], _ => by rw [spotsRM]; simp
  | .mk nm v :: m, ps => by
    have h2 := spotsRM_len s m ps
    have h1 := spotsR_len s v (parR ps nm).1.t (parR ps nm).1.has
    rw [spotsRM, Val.sizeM, List.length_append]; omega
end
theorem spotsRL_app (s : Sch) (t : Typ) : ∀ a b : List Val, spotsRL s (a ++ b) t = spotsRL s a t ++ spotsRL s b t
  | [], b => by rw [spotsRL]; rfl
  | x :: a, b => by rw [List.cons_append, spotsRL, spotsRL, spotsRL_app s t a b, List.append_assoc]
theorem spotsRM_app (s : Sch) (ps : List Par) : ∀ a b : List Mem, spotsRM s (a ++ b) ps = spotsRM s a ps ++ spotsRM s b ps
  | [], b => by rw [spotsRM]; rfl
  | .mk _ _ :: a, b => by rw [List.cons_append, spotsRM, spotsRM, spotsRM_app s ps a b, List.append_assoc]
theorem spotsRL_take {s : Sch} {t : Typ} {l : List Val} {k : Nat} (h : k < l.length) : spotsRL s (l.take (k + 1)) t = spotsRL s (l.take k) t ++ spotsR s l[k] t false := by
  rw [List.take_succ_eq_append_getElem h, spotsRL_app]
  congr 1
  rw [spotsRL, spotsRL, List.append_nil]
theorem spotsRM_take {s : Sch} {ps : List Par} {l : List Mem} {k : Nat} (h : k < l.length) : spotsRM s (l.take (k + 1)) ps = spotsRM s (l.take k) ps ++ spotsR s l[k].v (parR ps l[k].name).1.t (parR ps l[k].name).1.has := by
  rw [List.take_succ_eq_append_getElem h, spotsRM_app]
  congr 1
  cases hx : l[k]
  rw [spotsRM, spotsRM, List.append_nil]; rfl
theorem parR_len {ps : List Par} {name : Str} (h : ∀ p ∈ ps, p.t.name.length ≤ 2097152) : (parR ps name).1.t.name.length ≤ 2097152 := by
  unfold parR
  cases hp : parO ps name with
  | none => exact Nat.zero_le _
  | some p => exact h p (List.mem_of_find?_eq_some hp)
theorem rSpotsStep (s : Sch) (hs : s.size ≤ 1048576) (v : Val) (t : Typ) (has : Bool) (hv : v.size ≤ 1048576) (ht : t.name.length ≤ 2097152)
    (ihL : ∀ x ∈ v.l, ∀ (t : Typ) (has : Bool), t.name.length ≤ 2097152 → PFn Tryz.prog 11 [s.enc, t.enc, .bool has, x.enc] (.slice ((spotsR s x t has).map Spt.enc) .no))
    (ihM : ∀ x ∈ v.m, ∀ (t : Typ) (has : Bool), t.name.length ≤ 2097152 → PFn Tryz.prog 11 [s.enc, t.enc, .bool has, x.v.enc] (.slice ((spotsR s x.v t has).map Spt.enc) .no))
    (down : rightT t = true ∧ t.lists ≠ 0 → PFn Tryz.prog 11 [s.enc, (itemT t).enc, .bool false, v.enc] (.slice ((spotsR s v (itemT t) false).map Spt.enc) .no)) :
    PFn Tryz.prog 11 [s.enc, t.enc, .bool has, v.enc] (.slice ((spotsR s v t has).map Spt.enc) .no) := by
  have hit := rItem t (by omega)
  have hll := v.l_len
  have hml := v.m_len
  have hsp := v.size_parts
  refine AFn.plain (by simp [AV.closed, Spt.closedL]) (by simp [AV.closed, AV.closedL, Sch.closed, Val.closed, Typ.closed]) (AFn.enter [8] Tryz.func11 rfl rfl rfl rfl rfl (by decide) ?_)
  rw [spotsR_eq]
  by_cases k8 : v.kind = 8
  · have q8 : (v.kind == 8) = true := by simp [k8]
    rw [if_pos k8]
    repeat' first
      | refine .br ?_
      | refine .seq ?_ | refine .rg ?_ | refine .rd ?_ | refine .block ?_ | refine .scope ?_ | refine .skip ?_ | refine .label ?_ | refine .exit ?_ | refine .ret ?_
      | refine .ct ?_ | refine .cf ?_ | refine .cy ?_ | refine .cn ?_ | (refine .cond rfl ?_ ?_ <;> intro hc)
      | refine A.nil_seq ?_ | refine .nl ?_ | refine .dd ?_ | refine .ys ?_ | refine .no ?_ | (refine A.guard rfl ?_ ?_ <;> intro hc)
      | refine .lb ?_ | refine .ln ?_ | refine .ls ?_ | refine .pv ?_ | refine .ix ?_ | refine .pt ?_ | refine .pf ?_ | refine .bx ?_ | refine .al ?_ | refine .st ?_ | refine .ad ?_ | refine .sb ?_ | refine .mf ?_ | refine .cl ?_ | refine .cw ?_ | refine .ck ?_ | fail
    exact Fin.ret1 rfl (Weak.no (WeakL.refl _))
  · have q8 : (v.kind == 8) = false := by simp [k8]
    rw [if_neg k8]
    by_cases k0 : v.kind = 0
    · have q0 : (v.kind == 0) = true := by simp [k0]
      rw [if_neg (by omega), if_neg (by omega)]
      repeat' first
        | refine .br ?_
        | refine .seq ?_ | refine .rg ?_ | refine .rd ?_ | refine .block ?_ | refine .scope ?_ | refine .skip ?_ | refine .label ?_ | refine .exit ?_ | refine .ret ?_
        | refine .ct ?_ | refine .cf ?_ | refine .cy ?_ | refine .cn ?_ | (refine .cond rfl ?_ ?_ <;> intro hc)
        | refine A.nil_seq ?_ | refine .nl ?_ | refine .dd ?_ | refine .ys ?_ | refine .no ?_ | (refine A.guard rfl ?_ ?_ <;> intro hc)
        | refine .lb ?_ | refine .ln ?_ | refine .ls ?_ | refine .pv ?_ | refine .ix ?_ | refine .pt ?_ | refine .pf ?_ | refine .bx ?_ | refine .al ?_ | refine .st ?_ | refine .ad ?_ | refine .sb ?_ | refine .mf ?_ | refine .cl ?_ | refine .cw ?_ | refine .ck ?_ | fail
      exact Fin.ret1 rfl (Weak.no (WeakL.refl _))
    have q0 : (v.kind == 0) = false := by simp [k0]
    unfold itemR at hit
    by_cases ci : rightT t = true ∧ t.lists ≠ 0
    · rw [if_pos ci] at hit
      have hdn := down ci
      by_cases k6 : v.kind = 6
      · have q6 : (v.kind != 6) = false := by simp [k6]
        rw [if_pos k6, if_pos ci]
        repeat' first
          | refine .br ?_
          | refine .seq ?_ | refine .rg ?_ | refine .rd ?_ | refine .block ?_ | refine .scope ?_ | refine .skip ?_ | refine .label ?_ | refine .exit ?_ | refine .ret ?_
          | refine .ct ?_ | refine .cf ?_ | refine .cy ?_ | refine .cn ?_ | (refine .cond rfl ?_ ?_ <;> intro hc)
          | refine A.nil_seq ?_ | refine .nl ?_ | refine .dd ?_ | refine .ys ?_ | refine .no ?_ | (refine A.guard rfl ?_ ?_ <;> intro hc)
          | refine .lb ?_ | refine .ln ?_ | refine .ls ?_ | refine .pv ?_ | refine .ix ?_ | refine .pt ?_ | refine .pf ?_ | refine .bx ?_ | refine .al ?_ | refine .st ?_ | refine .ad ?_ | refine .sb ?_ | refine .mf ?_ | refine .cl ?_ | refine .cw ?_ | refine .ck ?_ | fail
        refine HCode.adopt 11 true 5 rfl rfl rfl rfl rfl rfl ?_
        refine HCode.forK v.l.length (fun k => [(12, .int .i64 k), (4, .rptr s.enc), (7, .rptr v.enc), (9, .ptr 0 0), (11, .slice ((spotsRL s (v.l.take k) (itemT t)).map Spt.enc) (.own 0 5))])
          (fun k => ⟨[.cells [.str t.name, .int .i64 (t.lists - 1), .int .i64 (t.musts / 2)]], [.len (spotsRL s (v.l.take k) (itemT t)).length]⟩) (fun _ => True)
          ⟨rfl, rfl, rfl, rfl, by rw [List.take_zero, spotsRL]; rfl, trivial⟩ (by rw [List.take_zero, spotsRL]; rfl) trivial fun k hk _ => ?_
        by_cases h1 : k < v.l.length
        · have d1 : decide ((k : Int) < (v.lv.length : Int)) = true := by rw [v.lv_len]; simp [h1]
          have x1 := Val.lv_get h1
          have hc1 := ihL v.l[k] (List.getElem_mem h1) (itemT t) false ht
          have htk := spotsRL_take (s := s) (t := itemT t) h1
          have hlen := spotsRL_len s (v.l.take (k + 1)) (itemT t)
          have hlt := sizeL_take v.l (k + 1)
          have hll' : (spotsRL s (v.l.take (k + 1)) (itemT t)).length = (spotsRL s (v.l.take k) (itemT t)).length + (spotsR s v.l[k] (itemT t) false).length := by rw [htk, List.length_append]
          have hml' : ((spotsR s v.l[k] (itemT t) false).map Spt.enc).length = (spotsR s v.l[k] (itemT t) false).length := List.length_map ..
          repeat' first
            | refine .seq ?_ | refine .rg ?_ | refine .rd ?_ | refine .block ?_ | refine .scope ?_ | refine .skip ?_ | refine .label ?_ | refine .exit ?_ | refine .ret ?_
            | refine .ct ?_ | refine .cf ?_ | refine .cy ?_ | refine .cn ?_ | (refine .cond rfl ?_ ?_ <;> intro hc)
            | refine A.nil_seq ?_ | refine .nl ?_ | refine .dd ?_ | refine .ys ?_ | refine .no ?_ | (refine A.guard rfl ?_ ?_ <;> intro hc)
            | refine .lb ?_ | refine .ln ?_ | refine .ls ?_ | refine .pv ?_ | refine .ix ?_ | refine .pt ?_ | refine .pf ?_ | refine .bx ?_ | refine .al ?_ | refine .st ?_ | refine .ad ?_ | refine .sb ?_ | refine .mf ?_ | refine .cl ?_ | refine .cw ?_ | refine .ck ?_
            | refine A.append (n := (spotsRL s (v.l.take k) (itemT t)).length) rfl rfl rfl rfl rfl rfl rfl rfl (List.length_map ..) (Spt.fitsAll _) (by dsimp only; omega) (by omega) rfl ?_ | fail
          exact ⟨h1, ⟨rfl, rfl, rfl, rfl, by rw [htk, List.map_append]; rfl, trivial⟩, by simp [belowS, AV.low], by simp [belowB, belowT, Ob.low, Tok.low, AV.lowL, AV.low], by rw [hll', ← hml']; rfl, trivial⟩
        · have d1 : decide ((k : Int) < (v.lv.length : Int)) = false := by rw [v.lv_len]; simp; omega
          obtain rfl : k = v.l.length := by omega
          repeat' first
            | refine .seq ?_ | refine .rg ?_ | refine .rd ?_ | refine .block ?_ | refine .scope ?_ | refine .skip ?_ | refine .label ?_ | refine .exit ?_ | refine .ret ?_
            | refine .ct ?_ | refine .cf ?_ | refine .cy ?_ | refine .cn ?_ | (refine .cond rfl ?_ ?_ <;> intro hc)
            | refine A.nil_seq ?_ | refine .nl ?_ | refine .dd ?_ | refine .ys ?_ | refine .no ?_ | (refine A.guard rfl ?_ ?_ <;> intro hc)
            | refine .lb ?_ | refine .ln ?_ | refine .ls ?_ | refine .pv ?_ | refine .ix ?_ | refine .pt ?_ | refine .pf ?_ | refine .bx ?_ | refine .al ?_ | refine .st ?_ | refine .ad ?_ | refine .sb ?_ | refine .mf ?_ | refine .cl ?_ | refine .cw ?_ | refine .ck ?_ | fail
          refine Fin.ret1 rfl (Weak.no (WeakL.eq ?_))
          rw [List.take_length]
      · have q6 : (v.kind != 6) = true := by simp [k6]
        rw [spotsR_eq, if_neg k8, if_neg k6] at hdn
        rw [if_neg k6]
        repeat' first
          | refine .br ?_
          | refine .seq ?_ | refine .rg ?_ | refine .rd ?_ | refine .block ?_ | refine .scope ?_ | refine .skip ?_ | refine .label ?_ | refine .exit ?_ | refine .ret ?_
          | refine .ct ?_ | refine .cf ?_ | refine .cy ?_ | refine .cn ?_ | (refine .cond rfl ?_ ?_ <;> intro hc)
          | refine A.nil_seq ?_ | refine .nl ?_ | refine .dd ?_ | refine .ys ?_ | refine .no ?_ | (refine A.guard rfl ?_ ?_ <;> intro hc)
          | refine .lb ?_ | refine .ln ?_ | refine .ls ?_ | refine .pv ?_ | refine .ix ?_ | refine .pt ?_ | refine .pf ?_ | refine .bx ?_ | refine .al ?_ | refine .st ?_ | refine .ad ?_ | refine .sb ?_ | refine .mf ?_ | refine .cl ?_ | refine .cw ?_ | refine .ck ?_ | fail
        exact Fin.ret1 rfl (Weak.refl _)
    · rw [if_neg ci] at hit
      by_cases k7 : v.kind = 7
      · have q7 : (v.kind == 7) = true := by simp [k7]
        rw [if_neg (by omega), if_pos k7]
        have hf := rFind9 s t.name hs
        have hsz := findR_size (name := t.name) (show s.size ≤ 2097152 by omega)
        generalize findR s t.name = fr at hf hsz
        obtain ⟨d, ok⟩ := fr
        simp only at hf hsz ⊢
        repeat' first
          | refine .br ?_
          | refine .seq ?_ | refine .rg ?_ | refine .rd ?_ | refine .block ?_ | refine .scope ?_ | refine .skip ?_ | refine .label ?_ | refine .exit ?_ | refine .ret ?_
          | refine .ct ?_ | refine .cf ?_ | refine .cy ?_ | refine .cn ?_ | (refine .cond rfl ?_ ?_ <;> intro hc)
          | refine A.nil_seq ?_ | refine .nl ?_ | refine .dd ?_ | refine .ys ?_ | refine .no ?_ | (refine A.guard rfl ?_ ?_ <;> intro hc)
          | refine .lb ?_ | refine .ln ?_ | refine .ls ?_ | refine .pv ?_ | refine .ix ?_ | refine .pt ?_ | refine .pf ?_ | refine .bx ?_ | refine .al ?_ | refine .st ?_ | refine .ad ?_ | refine .sb ?_ | refine .mf ?_ | refine .cl ?_ | refine .cw ?_ | refine .ck ?_ | fail
        refine HCode.adopt 11 true 5 rfl rfl rfl rfl rfl rfl ?_
        refine HCode.forK v.m.length (fun k => [(15, .int .i64 k), (4, .rptr s.enc), (7, .rptr v.enc), (11, .slice ((spotsRM s (v.m.take k) d.params).map Spt.enc) (.own 0 5)), (13, .ptr 1 0)])
          (fun k => ⟨[.cells [.str [], .int .i64 0, .int .i64 0], .cells [.int .i64 d.kind, .str d.name, .slice (d.faces.map AV.str) .no, .slice (d.fields.map Fld.enc) .no, .slice (d.parts.map AV.str) .no, .slice (d.params.map Par.enc) .no]], [.len (spotsRM s (v.m.take k) d.params).length]⟩) (fun _ => True)
          ⟨rfl, rfl, rfl, by rw [List.take_zero, spotsRM]; rfl, rfl, trivial⟩ (by rw [List.take_zero, spotsRM]; rfl) trivial fun k hk _ => ?_
        by_cases h1 : k < v.m.length
        · have d1 : decide ((k : Int) < (v.mv.length : Int)) = true := by rw [v.mv_len]; simp [h1]
          have x1 := Val.mv_get h1
          have hpar := rParam9 d.params v.m[k].name (by omega)
          have htk := spotsRM_take (s := s) (ps := d.params) h1
          have hlen := spotsRM_len s (v.m.take (k + 1)) d.params
          have hlt := sizeM_take v.m (k + 1)
          have hpl := parR_len (ps := d.params) (name := v.m[k].name) (fun p hp => by have := hsz.2.2.2.2 p hp; have := p.lens; omega)
          generalize parR d.params v.m[k].name = pr at hpar htk hpl
          obtain ⟨p, pok⟩ := pr
          simp only at hpar htk hpl
          have hc1 := ihM v.m[k] (List.getElem_mem h1) p.t p.has hpl
          have hll' : (spotsRM s (v.m.take (k + 1)) d.params).length = (spotsRM s (v.m.take k) d.params).length + (spotsR s v.m[k].v p.t p.has).length := by rw [htk, List.length_append]
          have hml' : ((spotsR s v.m[k].v p.t p.has).map Spt.enc).length = (spotsR s v.m[k].v p.t p.has).length := List.length_map ..
          repeat' first
            | refine A.allocv (d := 16) rfl rfl rfl rfl rfl ?_ | refine HCode.turn 16 rfl (Turn.freezeP rfl rfl rfl rfl) ?_
            | refine .seq ?_ | refine .rg ?_ | refine .rd ?_ | refine .block ?_ | refine .scope ?_ | refine .skip ?_ | refine .label ?_ | refine .exit ?_ | refine .ret ?_
            | refine .ct ?_ | refine .cf ?_ | refine .cy ?_ | refine .cn ?_ | (refine .cond rfl ?_ ?_ <;> intro hc)
            | refine A.nil_seq ?_ | refine .nl ?_ | refine .dd ?_ | refine .ys ?_ | refine .no ?_ | (refine A.guard rfl ?_ ?_ <;> intro hc)
            | refine .lb ?_ | refine .ln ?_ | refine .ls ?_ | refine .pv ?_ | refine .ix ?_ | refine .pt ?_ | refine .pf ?_ | refine .bx ?_ | refine .al ?_ | refine .st ?_ | refine .ad ?_ | refine .sb ?_ | refine .mf ?_ | refine .cl ?_ | refine .cw ?_ | refine .ck ?_
            | refine A.vstore (agg := true) rfl rfl rfl rfl rfl rfl rfl rfl rfl rfl rfl ?_ | refine A.append (n := (spotsRM s (v.m.take k) d.params).length) rfl rfl rfl rfl rfl rfl rfl rfl (List.length_map ..) (Spt.fitsAll _) (by dsimp only; omega) (by omega) rfl ?_ | fail
          exact ⟨h1, ⟨rfl, rfl, rfl, by rw [htk, List.map_append]; rfl, rfl, trivial⟩, by simp [belowS, AV.low], by simp [belowB, belowT, Ob.low, Tok.low, AV.lowL, AV.low], by rw [hll', ← hml']; rfl, trivial⟩
        · have d1 : decide ((k : Int) < (v.mv.length : Int)) = false := by rw [v.mv_len]; simp; omega
          obtain rfl : k = v.m.length := by omega
          repeat' first
            | refine .seq ?_ | refine .rg ?_ | refine .rd ?_ | refine .block ?_ | refine .scope ?_ | refine .skip ?_ | refine .label ?_ | refine .exit ?_ | refine .ret ?_
            | refine .ct ?_ | refine .cf ?_ | refine .cy ?_ | refine .cn ?_ | (refine .cond rfl ?_ ?_ <;> intro hc)
            | refine A.nil_seq ?_ | refine .nl ?_ | refine .dd ?_ | refine .ys ?_ | refine .no ?_ | (refine A.guard rfl ?_ ?_ <;> intro hc)
            | refine .lb ?_ | refine .ln ?_ | refine .ls ?_ | refine .pv ?_ | refine .ix ?_ | refine .pt ?_ | refine .pf ?_ | refine .bx ?_ | refine .al ?_ | refine .st ?_ | refine .ad ?_ | refine .sb ?_ | refine .mf ?_ | refine .cl ?_ | refine .cw ?_ | refine .ck ?_ | fail
          refine Fin.ret1 rfl (Weak.no (WeakL.eq ?_))
          rw [List.take_length]
      · have q7 : (v.kind == 7) = false := by simp [k7]
        rw [if_neg ci, if_neg k7, ite_self]
        by_cases k6 : v.kind = 6
        · have q6 : (v.kind != 6) = false := by simp [k6]
          repeat' first
            | refine .br ?_
            | refine .seq ?_ | refine .rg ?_ | refine .rd ?_ | refine .block ?_ | refine .scope ?_ | refine .skip ?_ | refine .label ?_ | refine .exit ?_ | refine .ret ?_
            | refine .ct ?_ | refine .cf ?_ | refine .cy ?_ | refine .cn ?_ | (refine .cond rfl ?_ ?_ <;> intro hc)
            | refine A.nil_seq ?_ | refine .nl ?_ | refine .dd ?_ | refine .ys ?_ | refine .no ?_ | (refine A.guard rfl ?_ ?_ <;> intro hc)
            | refine .lb ?_ | refine .ln ?_ | refine .ls ?_ | refine .pv ?_ | refine .ix ?_ | refine .pt ?_ | refine .pf ?_ | refine .bx ?_ | refine .al ?_ | refine .st ?_ | refine .ad ?_ | refine .sb ?_ | refine .mf ?_ | refine .cl ?_ | refine .cw ?_ | refine .ck ?_ | fail
          exact Fin.ret1 rfl (Weak.no (WeakL.refl _))
        · have q6 : (v.kind != 6) = true := by simp [k6]
          repeat' first
            | refine .br ?_
            | refine .seq ?_ | refine .rg ?_ | refine .rd ?_ | refine .block ?_ | refine .scope ?_ | refine .skip ?_ | refine .label ?_ | refine .exit ?_ | refine .ret ?_
            | refine .ct ?_ | refine .cf ?_ | refine .cy ?_ | refine .cn ?_ | (refine .cond rfl ?_ ?_ <;> intro hc)
            | refine A.nil_seq ?_ | refine .nl ?_ | refine .dd ?_ | refine .ys ?_ | refine .no ?_ | (refine A.guard rfl ?_ ?_ <;> intro hc)
            | refine .lb ?_ | refine .ln ?_ | refine .ls ?_ | refine .pv ?_ | refine .ix ?_ | refine .pt ?_ | refine .pf ?_ | refine .bx ?_ | refine .al ?_ | refine .st ?_ | refine .ad ?_ | refine .sb ?_ | refine .mf ?_ | refine .cl ?_ | refine .cw ?_ | refine .ck ?_ | fail
          exact Fin.ret1 rfl (Weak.no (WeakL.refl _))
theorem rSpots (s : Sch) (hs : s.size ≤ 1048576) : ∀ N : Nat, N ≤ 1048576 → ∀ v : Val, v.size ≤ N → ∀ (j : Nat) (t : Typ) (has : Bool), t.lists.toNat = j → t.name.length ≤ 2097152 →
    PFn Tryz.prog 11 [s.enc, t.enc, .bool has, v.enc] (.slice ((spotsR s v t has).map Spt.enc) .no)
  | 0, _, v, hv => absurd hv (by have := v.size_pos; omega)
  | N + 1, hN, v, hv => by
    have ih := rSpots s hs N (by omega)
    have hL : ∀ x ∈ v.l, x.size ≤ N := fun x hx => by
      obtain ⟨k, hk, rfl⟩ := List.getElem_of_mem hx
      have := Val.size_l hk; omega
    have hM : ∀ x ∈ v.m, x.v.size ≤ N := fun x hx => by
      obtain ⟨k, hk, rfl⟩ := List.getElem_of_mem hx
      have := Val.size_m hk; omega
    intro j
    induction j with
    | zero =>
      intro t has hj ht
      exact rSpotsStep s hs v t has (by omega) ht (fun x hx u h hu => ih x (hL x hx) _ u h rfl hu) (fun x hx u h hu => ih x.v (hM x hx) _ u h rfl hu) (fun ⟨c, h0⟩ => absurd (rightT_iff.1 c).2.1 (by omega))
    | succ j ihj =>
      intro t has hj ht
      exact rSpotsStep s hs v t has (by omega) ht (fun x hx u h hu => ih x (hL x hx) _ u h rfl hu) (fun x hx u h hu => ih x.v (hM x hx) _ u h rfl hu) (fun _ => ihj (itemT t) false (by show (t.lists - 1).toNat = j; omega) ht)
end Go.Proofs.YtijlmchfepjjkaaGreatDoor
