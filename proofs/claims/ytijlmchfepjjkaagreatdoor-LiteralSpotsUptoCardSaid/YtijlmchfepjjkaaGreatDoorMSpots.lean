/-
  The package literal: Spots.
-/
import Derived.Test.YtijlmchfepjjkaaGreatDoorMLitW
namespace Go.Proofs.YtijlmchfepjjkaaGreatDoor
open Go Go.Av
set_option maxRecDepth 100000
set_option maxHeartbeats 16000000
set_option linter.unusedVariables false
set_option linter.unusedSimpArgs false
attribute [local irreducible] HCode AOps PFn AFn Av.Step TStep

theorem spotsP_eq (s : Sch) (v : Val) (t : Typ) (has : Bool) : spotsP s v t has = if v.kind = 8 then [⟨v.s, t, has⟩] else if v.kind = 6 then (if rightT t = true ∧ t.lists ≠ 0 then spotsPL s v.l (itemT t) else []) else if v.kind = 7 then spotsPM s v.m (findR s t.name).1.params else [] := by
  cases v; rw [spotsP]; rfl
theorem spotsP_down {s : Sch} {v : Val} {t : Typ} {has : Bool} (h8 : v.kind ≠ 8) (h6 : v.kind ≠ 6) : spotsP s v t has = spotsP s v (itemT t) false := by
  rw [spotsP_eq, spotsP_eq, if_neg h8, if_neg h8, if_neg h6, if_neg h6]; rfl
mutual
theorem spotsP_len (s : Sch) : ∀ (v : Val) (t : Typ) (has : Bool), (spotsP s v t has).length ≤ v.size
  | .mk k n str l m, t, has => by
    have h1 := spotsPL_len s l (itemT t)
    have h2 := spotsPM_len s m (findR s t.name).1.params
    rw [spotsP, Val.size]
    split
    · simp
    · split
      · split
        · omega
        · simp
      · split
        · omega
        · simp
theorem spotsPL_len (s : Sch) : ∀ (l : List Val) (t : Typ), (spotsPL s l t).length ≤ Val.sizeL l
  | [], _ => by rw [spotsPL]; simp
  | v :: l, t => by
    have h1 := spotsP_len s v t false
    have h2 := spotsPL_len s l t
    rw [spotsPL, Val.sizeL, List.length_append]; omega
theorem spotsPM_len (s : Sch) : ∀ (m : List Mem) (ps : List Par), (spotsPM s m ps).length ≤ Val.sizeM m
  | [], _ => by rw [spotsPM]; simp
  | .mk nm v :: m, ps => by
    have h2 := spotsPM_len s m ps
    rw [spotsPM, Val.sizeM, List.length_append]
    cases parO ps nm with
    | none => simp; omega
    | some p => have h1 := spotsP_len s v p.t p.has; simp only; omega
end
theorem spotsPL_app (s : Sch) (t : Typ) : ∀ a b : List Val, spotsPL s (a ++ b) t = spotsPL s a t ++ spotsPL s b t
  | [], b => by rw [spotsPL]; rfl
  | x :: a, b => by rw [List.cons_append, spotsPL, spotsPL, spotsPL_app s t a b, List.append_assoc]
theorem spotsPM_app (s : Sch) (ps : List Par) : ∀ a b : List Mem, spotsPM s (a ++ b) ps = spotsPM s a ps ++ spotsPM s b ps
  | [], b => by rw [spotsPM]; rfl
  | .mk _ _ :: a, b => by rw [List.cons_append, spotsPM, spotsPM, spotsPM_app s ps a b, List.append_assoc]
theorem spotsPL_take {s : Sch} {t : Typ} {l : List Val} {k : Nat} (h : k < l.length) : spotsPL s (l.take (k + 1)) t = spotsPL s (l.take k) t ++ spotsP s l[k] t false := by
  rw [List.take_succ_eq_append_getElem h, spotsPL_app]
  congr 1
  rw [spotsPL, spotsPL, List.append_nil]
theorem spotsPM_take {s : Sch} {ps : List Par} {l : List Mem} {k : Nat} (h : k < l.length) : spotsPM s (l.take (k + 1)) ps = spotsPM s (l.take k) ps ++ (match parO ps l[k].name with | none => [] | some p => spotsP s l[k].v p.t p.has) := by
  rw [List.take_succ_eq_append_getElem h, spotsPM_app]
  congr 1
  cases hx : l[k]
  rw [spotsPM, spotsPM, List.append_nil]; rfl
theorem sizeL_take (l : List Val) (k : Nat) : Val.sizeL (l.take k) ≤ Val.sizeL l := by
  induction l generalizing k with
  | nil => simp
  | cons x l ih =>
    cases k with
    | zero => simp [Val.sizeL]
    | succ k => simp only [List.take_succ_cons, Val.sizeL]; have := ih k; omega
theorem sizeM_take (l : List Mem) (k : Nat) : Val.sizeM (l.take k) ≤ Val.sizeM l := by
  induction l generalizing k with
  | nil => simp
  | cons x l ih =>
    cases k with
    | zero => simp [Val.sizeM]
    | succ k => cases x; simp only [List.take_succ_cons, Val.sizeM]; have := ih k; omega
theorem Val.size_parts (v : Val) : Val.sizeL v.l ≤ v.size ∧ Val.sizeM v.m ≤ v.size := by
  cases v; rw [Val.size]; simp only [Val.l, Val.m]; omega
theorem lSpotsStep (s : Sch) (hs : s.size ≤ 2097152) (v : Val) (t : Typ) (has : Bool) (hv : v.size ≤ 2097152) (ht : t.name.length ≤ 2097152)
    (ihL : ∀ x ∈ v.l, ∀ (t : Typ) (has : Bool), t.name.length ≤ 2097152 → PFn Tryz.prog 10 [s.enc, t.enc, .bool has, x.enc] (.slice ((spotsP s x t has).map Spt.enc) .no))
    (ihM : ∀ x ∈ v.m, ∀ (t : Typ) (has : Bool), t.name.length ≤ 2097152 → PFn Tryz.prog 10 [s.enc, t.enc, .bool has, x.v.enc] (.slice ((spotsP s x.v t has).map Spt.enc) .no))
    (down : rightT t = true ∧ t.lists ≠ 0 → PFn Tryz.prog 10 [s.enc, (itemT t).enc, .bool false, v.enc] (.slice ((spotsP s v (itemT t) false).map Spt.enc) .no)) :
    PFn Tryz.prog 10 [s.enc, t.enc, .bool has, v.enc] (.slice ((spotsP s v t has).map Spt.enc) .no) := by
  have hit := wItem t (by omega)
  have hll := v.l_len
  have hml := v.m_len
  have hsp := v.size_parts
  refine AFn.plain (by simp [AV.closed, Spt.closedL]) (by simp [AV.closed, AV.closedL, Sch.closed, Val.closed, Typ.closed]) (AFn.enter [8] Tryz.func10 rfl rfl rfl rfl rfl (by decide) ?_)
  rw [spotsP_eq]
  by_cases k8 : v.kind = 8
  · have q8 : (v.kind == 8) = true := by simp [k8]
    rw [if_pos k8]
    repeat' first
      | refine .br ?_
      | refine .seq ?_ | refine .rg ?_ | refine .rd ?_ | refine .block ?_ | refine .scope ?_ | refine .skip ?_ | refine .label ?_ | refine .exit ?_ | refine .ret ?_
      | refine .ct ?_ | refine .cf ?_ | refine .cy ?_ | refine .cn ?_ | (refine .cond rfl ?_ ?_ <;> intro hc)
      | refine A.nil_seq ?_ | refine .nl ?_ | refine .dd ?_ | refine .ys ?_ | refine .no ?_ | (refine A.guard rfl ?_ ?_ <;> intro hc)
      | refine .lb ?_ | refine .ln ?_ | refine .ls ?_ | refine .pv ?_ | refine .ix ?_ | refine .pt ?_ | refine .pf ?_ | refine .bx ?_ | refine .al ?_ | refine .st ?_ | refine .ad ?_ | refine .sb ?_ | refine .mf ?_ | refine .cl ?_ | refine .cw ?_ | refine .ck ?_ | fail
    exact Fin.ret1 rfl (Weak.no (WeakL.refl _))
  · have q8 : (v.kind == 8) = false := by simp [k8]
    rw [if_neg k8]
    unfold itemR at hit
    by_cases ci : rightT t = true ∧ t.lists ≠ 0
    · rw [if_pos ci] at hit
      have hdn := down ci
      by_cases k6 : v.kind = 6
      · have q6 : (v.kind == 6) = true := by simp [k6]
        rw [if_pos k6, if_pos ci]
        repeat' first
          | refine .br ?_
          | refine .seq ?_ | refine .rg ?_ | refine .rd ?_ | refine .block ?_ | refine .scope ?_ | refine .skip ?_ | refine .label ?_ | refine .exit ?_ | refine .ret ?_
          | refine .ct ?_ | refine .cf ?_ | refine .cy ?_ | refine .cn ?_ | (refine .cond rfl ?_ ?_ <;> intro hc)
          | refine A.nil_seq ?_ | refine .nl ?_ | refine .dd ?_ | refine .ys ?_ | refine .no ?_ | (refine A.guard rfl ?_ ?_ <;> intro hc)
          | refine .lb ?_ | refine .ln ?_ | refine .ls ?_ | refine .pv ?_ | refine .ix ?_ | refine .pt ?_ | refine .pf ?_ | refine .bx ?_ | refine .al ?_ | refine .st ?_ | refine .ad ?_ | refine .sb ?_ | refine .mf ?_ | refine .cl ?_ | refine .cw ?_ | refine .ck ?_ | fail
        refine HCode.adopt 9 true 5 rfl rfl rfl rfl rfl rfl ?_
        refine HCode.forK v.l.length (fun k => [(44, .int .i64 k), (43, .int .i64 v.lv.length), (42, .slice v.lv .no), (4, .rptr s.enc), (9, .slice ((spotsPL s (v.l.take k) (itemT t)).map Spt.enc) (.own 0 5)), (10, .ptr 0 0)])
          (fun k => ⟨[.cells [.str t.name, .int .i64 (t.lists - 1), .int .i64 (t.musts / 2)]], [.len (spotsPL s (v.l.take k) (itemT t)).length]⟩) (fun _ => True)
          ⟨rfl, rfl, rfl, rfl, by rw [List.take_zero, spotsPL]; rfl, rfl, trivial⟩ (by rw [List.take_zero, spotsPL]; rfl) trivial fun k hk _ => ?_
        by_cases h1 : k < v.l.length
        · have d1 : decide ((k : Int) < (v.lv.length : Int)) = true := by rw [v.lv_len]; simp [h1]
          have x1 := Val.lv_get h1
          have hc1 := ihL v.l[k] (List.getElem_mem h1) (itemT t) false ht
          have htk := spotsPL_take (s := s) (t := itemT t) h1
          have hlen := spotsPL_len s (v.l.take (k + 1)) (itemT t)
          have hlt := sizeL_take v.l (k + 1)
          have hll' : (spotsPL s (v.l.take (k + 1)) (itemT t)).length = (spotsPL s (v.l.take k) (itemT t)).length + (spotsP s v.l[k] (itemT t) false).length := by rw [htk, List.length_append]
          have hml' : ((spotsP s v.l[k] (itemT t) false).map Spt.enc).length = (spotsP s v.l[k] (itemT t) false).length := List.length_map ..
          repeat' first
            | refine .seq ?_ | refine .rg ?_ | refine .rd ?_ | refine .block ?_ | refine .scope ?_ | refine .skip ?_ | refine .label ?_ | refine .exit ?_ | refine .ret ?_
            | refine .ct ?_ | refine .cf ?_ | refine .cy ?_ | refine .cn ?_ | (refine .cond rfl ?_ ?_ <;> intro hc)
            | refine A.nil_seq ?_ | refine .nl ?_ | refine .dd ?_ | refine .ys ?_ | refine .no ?_ | (refine A.guard rfl ?_ ?_ <;> intro hc)
            | refine .lb ?_ | refine .ln ?_ | refine .ls ?_ | refine .pv ?_ | refine .ix ?_ | refine .pt ?_ | refine .pf ?_ | refine .bx ?_ | refine .al ?_ | refine .st ?_ | refine .ad ?_ | refine .sb ?_ | refine .mf ?_ | refine .cl ?_ | refine .cw ?_ | refine .ck ?_
            | refine A.append (n := (spotsPL s (v.l.take k) (itemT t)).length) rfl rfl rfl rfl rfl rfl rfl rfl (List.length_map ..) (Spt.fitsAll _) (by dsimp only; omega) (by omega) rfl ?_ | fail
          exact ⟨h1, ⟨rfl, rfl, rfl, rfl, by rw [htk, List.map_append]; rfl, rfl, trivial⟩, by simp [belowS, AV.low], by simp [belowB, belowT, Ob.low, Tok.low, AV.lowL, AV.low], by rw [hll', ← hml']; rfl, trivial⟩
        · have d1 : decide ((k : Int) < (v.lv.length : Int)) = false := by rw [v.lv_len]; simp; omega
          obtain rfl : k = v.l.length := by omega
          repeat' first
            | refine .seq ?_ | refine .rg ?_ | refine .rd ?_ | refine .block ?_ | refine .scope ?_ | refine .skip ?_ | refine .label ?_ | refine .exit ?_ | refine .ret ?_
            | refine .ct ?_ | refine .cf ?_ | refine .cy ?_ | refine .cn ?_ | (refine .cond rfl ?_ ?_ <;> intro hc)
            | refine A.nil_seq ?_ | refine .nl ?_ | refine .dd ?_ | refine .ys ?_ | refine .no ?_ | (refine A.guard rfl ?_ ?_ <;> intro hc)
            | refine .lb ?_ | refine .ln ?_ | refine .ls ?_ | refine .pv ?_ | refine .ix ?_ | refine .pt ?_ | refine .pf ?_ | refine .bx ?_ | refine .al ?_ | refine .st ?_ | refine .ad ?_ | refine .sb ?_ | refine .mf ?_ | refine .cl ?_ | refine .cw ?_ | refine .ck ?_ | fail
          refine Fin.ret1 rfl (Weak.no (WeakL.eq ?_))
          rw [List.take_length]
      · have q6 : (v.kind == 6) = false := by simp [k6]
        rw [spotsP_eq, if_neg k8, if_neg k6] at hdn
        rw [if_neg k6]
        repeat' first
          | refine .br ?_
          | refine .seq ?_ | refine .rg ?_ | refine .rd ?_ | refine .block ?_ | refine .scope ?_ | refine .skip ?_ | refine .label ?_ | refine .exit ?_ | refine .ret ?_
          | refine .ct ?_ | refine .cf ?_ | refine .cy ?_ | refine .cn ?_ | (refine .cond rfl ?_ ?_ <;> intro hc)
          | refine A.nil_seq ?_ | refine .nl ?_ | refine .dd ?_ | refine .ys ?_ | refine .no ?_ | (refine A.guard rfl ?_ ?_ <;> intro hc)
          | refine .lb ?_ | refine .ln ?_ | refine .ls ?_ | refine .pv ?_ | refine .ix ?_ | refine .pt ?_ | refine .pf ?_ | refine .bx ?_ | refine .al ?_ | refine .st ?_ | refine .ad ?_ | refine .sb ?_ | refine .mf ?_ | refine .cl ?_ | refine .cw ?_ | refine .ck ?_ | fail
        exact Fin.ret1 rfl (Weak.refl _)
    · rw [if_neg ci] at hit
      by_cases k7 : v.kind = 7
      · have q7 : (v.kind == 7) = true := by simp [k7]
        rw [if_neg (by omega), if_pos k7]
        have hf := dFind s t.name hs
        have hsz := findR_size (name := t.name) hs
        generalize findR s t.name = fr at hf hsz
        obtain ⟨d, ok⟩ := fr
        simp only at hf hsz ⊢
        repeat' first
          | refine .br ?_
          | refine .seq ?_ | refine .rg ?_ | refine .rd ?_ | refine .block ?_ | refine .scope ?_ | refine .skip ?_ | refine .label ?_ | refine .exit ?_ | refine .ret ?_
          | refine .ct ?_ | refine .cf ?_ | refine .cy ?_ | refine .cn ?_ | (refine .cond rfl ?_ ?_ <;> intro hc)
          | refine A.nil_seq ?_ | refine .nl ?_ | refine .dd ?_ | refine .ys ?_ | refine .no ?_ | (refine A.guard rfl ?_ ?_ <;> intro hc)
          | refine .lb ?_ | refine .ln ?_ | refine .ls ?_ | refine .pv ?_ | refine .ix ?_ | refine .pt ?_ | refine .pf ?_ | refine .bx ?_ | refine .al ?_ | refine .st ?_ | refine .ad ?_ | refine .sb ?_ | refine .mf ?_ | refine .cl ?_ | refine .cw ?_ | refine .ck ?_ | fail
        refine HCode.adopt 9 true 5 rfl rfl rfl rfl rfl rfl ?_
        refine HCode.forK v.m.length (fun k => [(75, .int .i64 k), (74, .int .i64 v.mv.length), (73, .slice v.mv .no), (4, .rptr s.enc), (9, .slice ((spotsPM s (v.m.take k) d.params).map Spt.enc) (.own 0 5)), (14, .ptr 1 0)])
          (fun k => ⟨[.cells [.str [], .int .i64 0, .int .i64 0], .cells [.int .i64 d.kind, .str d.name, .slice (d.faces.map AV.str) .no, .slice (d.fields.map Fld.enc) .no, .slice (d.parts.map AV.str) .no, .slice (d.params.map Par.enc) .no]], [.len (spotsPM s (v.m.take k) d.params).length]⟩) (fun _ => True)
          ⟨rfl, rfl, rfl, rfl, by rw [List.take_zero, spotsPM]; rfl, rfl, trivial⟩ (by rw [List.take_zero, spotsPM]; rfl) trivial fun k hk _ => ?_
        by_cases h1 : k < v.m.length
        · have d1 : decide ((k : Int) < (v.mv.length : Int)) = true := by rw [v.mv_len]; simp [h1]
          have x1 := Val.mv_get h1
          have hpar := lParam d.params v.m[k].name (by omega)
          have htk := spotsPM_take (s := s) (ps := d.params) h1
          have hlen := spotsPM_len s (v.m.take (k + 1)) d.params
          have hlt := sizeM_take v.m (k + 1)
          cases hpo : parO d.params v.m[k].name with
          | none =>
            have e1 : parR d.params v.m[k].name = (zeroP, false) := by rw [parR, hpo]
            rw [e1] at hpar
            rw [hpo, List.append_nil] at htk
            repeat' first
              | refine .seq ?_ | refine .rg ?_ | refine .rd ?_ | refine .block ?_ | refine .scope ?_ | refine .skip ?_ | refine .label ?_ | refine .exit ?_ | refine .ret ?_
              | refine .ct ?_ | refine .cf ?_ | refine .cy ?_ | refine .cn ?_ | (refine .cond rfl ?_ ?_ <;> intro hc)
              | refine A.nil_seq ?_ | refine .nl ?_ | refine .dd ?_ | refine .ys ?_ | refine .no ?_ | (refine A.guard rfl ?_ ?_ <;> intro hc)
              | refine .lb ?_ | refine .ln ?_ | refine .ls ?_ | refine .pv ?_ | refine .ix ?_ | refine .pt ?_ | refine .pf ?_ | refine .bx ?_ | refine .al ?_ | refine .st ?_ | refine .ad ?_ | refine .sb ?_ | refine .mf ?_ | refine .cl ?_ | refine .cw ?_ | refine .ck ?_ | fail
            exact ⟨h1, ⟨rfl, rfl, rfl, rfl, by rw [htk]; rfl, rfl, trivial⟩, by simp [belowS, AV.low], by simp [belowB, belowT, Ob.low, Tok.low, AV.lowL, AV.low], by rw [htk]; rfl, trivial⟩
          | some p =>
            have e1 : parR d.params v.m[k].name = (p, true) := by rw [parR, hpo]
            have hpm : p ∈ d.params := List.mem_of_find?_eq_some hpo
            have hpl := p.lens
            have hpz := hsz.2.2.2.2 p hpm
            have hc1 := ihM v.m[k] (List.getElem_mem h1) p.t p.has (by omega)
            rw [e1] at hpar
            rw [hpo] at htk
            have hll' : (spotsPM s (v.m.take (k + 1)) d.params).length = (spotsPM s (v.m.take k) d.params).length + (spotsP s v.m[k].v p.t p.has).length := by rw [htk, List.length_append]
            have hml' : ((spotsP s v.m[k].v p.t p.has).map Spt.enc).length = (spotsP s v.m[k].v p.t p.has).length := List.length_map ..
            repeat' first
              | refine .seq ?_ | refine .rg ?_ | refine .rd ?_ | refine .block ?_ | refine .scope ?_ | refine .skip ?_ | refine .label ?_ | refine .exit ?_ | refine .ret ?_
              | refine .ct ?_ | refine .cf ?_ | refine .cy ?_ | refine .cn ?_ | (refine .cond rfl ?_ ?_ <;> intro hc)
              | refine A.nil_seq ?_ | refine .nl ?_ | refine .dd ?_ | refine .ys ?_ | refine .no ?_ | (refine A.guard rfl ?_ ?_ <;> intro hc)
              | refine .lb ?_ | refine .ln ?_ | refine .ls ?_ | refine .pv ?_ | refine .ix ?_ | refine .pt ?_ | refine .pf ?_ | refine .bx ?_ | refine .al ?_ | refine .st ?_ | refine .ad ?_ | refine .sb ?_ | refine .mf ?_ | refine .cl ?_ | refine .cw ?_ | refine .ck ?_
              | refine A.append (n := (spotsPM s (v.m.take k) d.params).length) rfl rfl rfl rfl rfl rfl rfl rfl (List.length_map ..) (Spt.fitsAll _) (by dsimp only; omega) (by omega) rfl ?_ | fail
            exact ⟨h1, ⟨rfl, rfl, rfl, rfl, by rw [htk, List.map_append]; rfl, rfl, trivial⟩, by simp [belowS, AV.low], by simp [belowB, belowT, Ob.low, Tok.low, AV.lowL, AV.low], by rw [hll', ← hml']; rfl, trivial⟩
        · have d1 : decide ((k : Int) < (v.mv.length : Int)) = false := by rw [v.mv_len]; simp; omega
          obtain rfl : k = v.m.length := by omega
          repeat' first
            | refine .seq ?_ | refine .rg ?_ | refine .rd ?_ | refine .block ?_ | refine .scope ?_ | refine .skip ?_ | refine .label ?_ | refine .exit ?_ | refine .ret ?_
            | refine .ct ?_ | refine .cf ?_ | refine .cy ?_ | refine .cn ?_ | (refine .cond rfl ?_ ?_ <;> intro hc)
            | refine A.nil_seq ?_ | refine .nl ?_ | refine .dd ?_ | refine .ys ?_ | refine .no ?_ | (refine A.guard rfl ?_ ?_ <;> intro hc)
            | refine .lb ?_ | refine .ln ?_ | refine .ls ?_ | refine .pv ?_ | refine .ix ?_ | refine .pt ?_ | refine .pf ?_ | refine .bx ?_ | refine .al ?_ | refine .st ?_ | refine .ad ?_ | refine .sb ?_ | refine .mf ?_ | refine .cl ?_ | refine .cw ?_ | refine .ck ?_ | fail
          refine Fin.ret1 rfl (Weak.no (WeakL.eq ?_))
          rw [List.take_length]
      · have q7 : (v.kind == 7) = false := by simp [k7]
        rw [if_neg ci, if_neg k7, ite_self]
        repeat' first
          | refine .br ?_
          | refine .seq ?_ | refine .rg ?_ | refine .rd ?_ | refine .block ?_ | refine .scope ?_ | refine .skip ?_ | refine .label ?_ | refine .exit ?_ | refine .ret ?_
          | refine .ct ?_ | refine .cf ?_ | refine .cy ?_ | refine .cn ?_ | (refine .cond rfl ?_ ?_ <;> intro hc)
          | refine A.nil_seq ?_ | refine .nl ?_ | refine .dd ?_ | refine .ys ?_ | refine .no ?_ | (refine A.guard rfl ?_ ?_ <;> intro hc)
          | refine .lb ?_ | refine .ln ?_ | refine .ls ?_ | refine .pv ?_ | refine .ix ?_ | refine .pt ?_ | refine .pf ?_ | refine .bx ?_ | refine .al ?_ | refine .st ?_ | refine .ad ?_ | refine .sb ?_ | refine .mf ?_ | refine .cl ?_ | refine .cw ?_ | refine .ck ?_ | fail
        exact Fin.ret1 rfl (Weak.no (WeakL.refl _))
theorem lSpots (s : Sch) (hs : s.size ≤ 2097152) : ∀ N : Nat, N ≤ 2097152 → ∀ v : Val, v.size ≤ N → ∀ (j : Nat) (t : Typ) (has : Bool), t.lists.toNat = j → t.name.length ≤ 2097152 →
    PFn Tryz.prog 10 [s.enc, t.enc, .bool has, v.enc] (.slice ((spotsP s v t has).map Spt.enc) .no)
  | 0, _, v, hv => absurd hv (by have := v.size_pos; omega)
  | N + 1, hN, v, hv => by
    have ih := lSpots s hs N (by omega)
    have hL : ∀ x ∈ v.l, x.size ≤ N := fun x hx => by
      obtain ⟨k, hk, rfl⟩ := List.getElem_of_mem hx
      have := Val.size_l hk; omega
    have hM : ∀ x ∈ v.m, x.v.size ≤ N := fun x hx => by
      obtain ⟨k, hk, rfl⟩ := List.getElem_of_mem hx
      have := Val.size_m hk; omega
    intro j
    induction j with
    | zero =>
      intro t has hj ht
      exact lSpotsStep s hs v t has (by omega) ht (fun x hx u h hu => ih x (hL x hx) _ u h rfl hu) (fun x hx u h hu => ih x.v (hM x hx) _ u h rfl hu) (fun ⟨c, h0⟩ => absurd (rightT_iff.1 c).2.1 (by omega))
    | succ j ihj =>
      intro t has hj ht
      exact lSpotsStep s hs v t has (by omega) ht (fun x hx u h hu => ih x (hL x hx) _ u h rfl hu) (fun x hx u h hu => ih x.v (hM x hx) _ u h rfl hu) (fun _ => ihj (itemT t) false (by show (t.lists - 1).toNat = j; omega) ht)
end Go.Proofs.YtijlmchfepjjkaaGreatDoor
