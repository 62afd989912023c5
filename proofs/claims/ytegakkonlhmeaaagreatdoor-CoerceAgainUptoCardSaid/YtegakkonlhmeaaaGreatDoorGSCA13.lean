/-
  The package schema: once, names, foreign, every; the rules 2 to 5.
-/
import Derived.Test.YtegakkonlhmeaaaGreatDoorGSCA8
import Derived.Test.YtegakkonlhmeaaaGreatDoorGSCA4
import Derived.Test.YtegakkonlhmeaaaGreatDoorGSCA12
import Derived.Test.YtegakkonlhmeaaaGreatDoorGSCA1
set_option maxRecDepth 100000
set_option maxHeartbeats 16000000
set_option linter.unusedVariables false
set_option linter.unusedSimpArgs false
set_option linter.unusedSectionVars false
namespace Go.Proofs.YtegakkonlhmeaaaGreatDoor
open Go Go.Av
attribute [local irreducible] HCode AOps PFn AFn Av.Step TStep
def tiFn : TI := ⟨.func, 1, 8, false, .nilfn, [], 0⟩
theorem tokF1 : TOk Tryz.prog 89 tiFn := tok_mk .nilFunc (by kernel_rfl) Tryz.underlying89 rfl rfl rfl rfl rfl (by kernel_rfl) rfl (by kernel_rfl)
theorem tokF2 : TOk Tryz.prog 128 tiFn := tok_mk .nilFunc (by kernel_rfl) Tryz.underlying128 rfl rfl rfl rfl rfl (by kernel_rfl) rfl (by kernel_rfl)
def table2 : List (Nat × TI) := (89, tiFn) :: (128, tiFn) :: table
instance layF : Lay Tryz.prog := ⟨table2, ⟨tokF1, tokF2, table_ok⟩, Tryz.checked.mixed⟩
theorem wHas0 (s : Str) (hs : s.length ≤ 9223372036854775807) : PFn Tryz.prog 214 [.str s, .str [95, 95]] (.bool (own2 s)) := by
  
  refine AFn.plain rfl rfl (AFn.enter [4] Tryz.func214 rfl rfl rfl rfl rfl (by decide) ?_)
  unfold own2 at *
  by_cases h : 2 ≤ s.length
  · have d1 : decide ((([95, 95] : Str).length : Int) ≤ (s.length : Int)) = true := decide_eq_true (by simp only [List.length_cons, List.length_nil]; omega)
    repeat' first | refine .seq ?_ | refine .rg ?_ | refine .rd ?_ | refine .block ?_ | refine .scope ?_ | refine .skip ?_ | refine .label ?_ | refine .exit ?_ | refine .ret ?_ | refine .ct ?_ | refine .cf ?_ | refine .cy ?_ | refine .cn ?_ | (refine .cond rfl ?_ ?_ <;> intro hc) | refine A.nil_seq ?_ | refine .nl ?_ | refine .dd ?_ | refine .ys ?_ | refine .no ?_ | (refine A.guard rfl ?_ ?_ <;> intro hc) | refine .lb ?_ | refine .ln ?_ | refine .ls ?_ | refine .pv ?_ | refine .ix ?_ | refine .pt ?_ | refine .pf ?_ | refine .bx ?_ | refine .al ?_ | refine .st ?_ | refine .ad ?_ | refine .sb ?_ | refine .mf ?_ | refine .cl ?_ | refine .cw ?_ | refine .ck ?_ | refine A.slice_s 0 2 rfl rfl rfl rfl rfl rfl rfl (Nat.zero_le _) h (List.drop_zero ..) ?_ | fail
    exact Fin.ret1 rfl (Weak.refl _)
  · have d1 : decide ((([95, 95] : Str).length : Int) ≤ (s.length : Int)) = false := decide_eq_false (by simp only [List.length_cons, List.length_nil]; omega)
    repeat' first | refine .seq ?_ | refine .rg ?_ | refine .rd ?_ | refine .block ?_ | refine .scope ?_ | refine .skip ?_ | refine .label ?_ | refine .exit ?_ | refine .ret ?_ | refine .ct ?_ | refine .cf ?_ | refine .cy ?_ | refine .cn ?_ | (refine .cond rfl ?_ ?_ <;> intro hc) | refine A.nil_seq ?_ | refine .nl ?_ | refine .dd ?_ | refine .ys ?_ | refine .no ?_ | (refine A.guard rfl ?_ ?_ <;> intro hc) | refine .lb ?_ | refine .ln ?_ | refine .ls ?_ | refine .pv ?_ | refine .ix ?_ | refine .pt ?_ | refine .pf ?_ | refine .bx ?_ | refine .al ?_ | refine .st ?_ | refine .ad ?_ | refine .sb ?_ | refine .mf ?_ | refine .cl ?_ | refine .cw ?_ | refine .ck ?_ | fail
    refine Fin.ret1 rfl (Weak.eq (congrArg AV.bool ?_))
    first
      | rfl
      | (rw [eq_comm, beq_eq_false_iff_ne]
         intro e
         have := congrArg List.length e
         rw [List.length_take] at this
         simp only [List.length_cons, List.length_nil] at this
         omega)
theorem wHasPrefix (s : Str) (hs : s.length ≤ 9223372036854775807) : PFn Tryz.prog 181 [.str s, .str [95, 95]] (.bool (own2 s)) := by
  have h0 := wHas0 s hs
  refine AFn.plain rfl rfl (AFn.enter [4] Tryz.func181 rfl rfl rfl rfl rfl (by decide) ?_)
  unfold own2 at *
  by_cases h : 2 ≤ s.length
  · have d1 : decide ((([95, 95] : Str).length : Int) ≤ (s.length : Int)) = true := decide_eq_true (by simp only [List.length_cons, List.length_nil]; omega)
    repeat' first | refine .seq ?_ | refine .rg ?_ | refine .rd ?_ | refine .block ?_ | refine .scope ?_ | refine .skip ?_ | refine .label ?_ | refine .exit ?_ | refine .ret ?_ | refine .ct ?_ | refine .cf ?_ | refine .cy ?_ | refine .cn ?_ | (refine .cond rfl ?_ ?_ <;> intro hc) | refine A.nil_seq ?_ | refine .nl ?_ | refine .dd ?_ | refine .ys ?_ | refine .no ?_ | (refine A.guard rfl ?_ ?_ <;> intro hc) | refine .lb ?_ | refine .ln ?_ | refine .ls ?_ | refine .pv ?_ | refine .ix ?_ | refine .pt ?_ | refine .pf ?_ | refine .bx ?_ | refine .al ?_ | refine .st ?_ | refine .ad ?_ | refine .sb ?_ | refine .mf ?_ | refine .cl ?_ | refine .cw ?_ | refine .ck ?_ | refine A.slice_s 0 2 rfl rfl rfl rfl rfl rfl rfl (Nat.zero_le _) h (List.drop_zero ..) ?_ | fail
    exact Fin.ret1 rfl (Weak.refl _)
  · have d1 : decide ((([95, 95] : Str).length : Int) ≤ (s.length : Int)) = false := decide_eq_false (by simp only [List.length_cons, List.length_nil]; omega)
    repeat' first | refine .seq ?_ | refine .rg ?_ | refine .rd ?_ | refine .block ?_ | refine .scope ?_ | refine .skip ?_ | refine .label ?_ | refine .exit ?_ | refine .ret ?_ | refine .ct ?_ | refine .cf ?_ | refine .cy ?_ | refine .cn ?_ | (refine .cond rfl ?_ ?_ <;> intro hc) | refine A.nil_seq ?_ | refine .nl ?_ | refine .dd ?_ | refine .ys ?_ | refine .no ?_ | (refine A.guard rfl ?_ ?_ <;> intro hc) | refine .lb ?_ | refine .ln ?_ | refine .ls ?_ | refine .pv ?_ | refine .ix ?_ | refine .pt ?_ | refine .pf ?_ | refine .bx ?_ | refine .al ?_ | refine .st ?_ | refine .ad ?_ | refine .sb ?_ | refine .mf ?_ | refine .cl ?_ | refine .cw ?_ | refine .ck ?_ | fail
    refine Fin.ret1 rfl (Weak.eq (congrArg AV.bool ?_))
    first
      | rfl
      | (rw [eq_comm, beq_eq_false_iff_ne]
         intro e
         have := congrArg List.length e
         rw [List.length_take] at this
         simp only [List.length_cons, List.length_nil] at this
         omega)
theorem wForeign1 (s : Str) (hs : s.length ≤ 9223372036854775807) : PFn Tryz.prog 180 [.str s] (.bool (own2 s)) := by
  have h := wHasPrefix s hs
  refine AFn.plain rfl rfl (AFn.enter [2] Tryz.func180 rfl rfl rfl rfl rfl (by decide) ?_)
  repeat' first | refine .seq ?_ | refine .rg ?_ | refine .rd ?_ | refine .block ?_ | refine .scope ?_ | refine .skip ?_ | refine .label ?_ | refine .exit ?_ | refine .ret ?_ | refine .ct ?_ | refine .cf ?_ | refine .cy ?_ | refine .cn ?_ | (refine .cond rfl ?_ ?_ <;> intro hc) | refine A.nil_seq ?_ | refine .nl ?_ | refine .dd ?_ | refine .ys ?_ | refine .no ?_ | (refine A.guard rfl ?_ ?_ <;> intro hc) | refine .lb ?_ | refine .ln ?_ | refine .ls ?_ | refine .pv ?_ | refine .ix ?_ | refine .pt ?_ | refine .pf ?_ | refine .bx ?_ | refine .al ?_ | refine .st ?_ | refine .ad ?_ | refine .sb ?_ | refine .mf ?_ | refine .cl ?_ | refine .cw ?_ | refine .ck ?_ | fail
  exact Fin.ret1 rfl (Weak.refl _)
theorem wForeign (l : List Str) (hl : strsSize l ≤ 68719476736) : PFn Tryz.prog 117 [.slice (l.map AV.str) .no] (.bool (foreignB l)) := by
  have hlen : l.length ≤ 68719476736 := by have := sumSize_length (size := fun s : Str => s.length + 1) (fun _ => by omega) l; unfold strsSize at hl; omega
  have h := sContainsFStr l 180 [] own2 (by omega) rfl (fun x hx => wForeign1 x (by have := sumSize_mem (size := fun s : Str => s.length + 1) hx; unfold strsSize at hl; omega))
  refine AFn.plain rfl (by simp [AV.closed, AV.closedL, str_closedL]) (AFn.enter [2] Tryz.func117 rfl rfl rfl rfl rfl (by decide) ?_)
  repeat' first | refine .seq ?_ | refine .rg ?_ | refine .rd ?_ | refine .block ?_ | refine .scope ?_ | refine .skip ?_ | refine .label ?_ | refine .exit ?_ | refine .ret ?_ | refine .ct ?_ | refine .cf ?_ | refine .cy ?_ | refine .cn ?_ | (refine .cond rfl ?_ ?_ <;> intro hc) | refine A.nil_seq ?_ | refine .nl ?_ | refine .dd ?_ | refine .ys ?_ | refine .no ?_ | (refine A.guard rfl ?_ ?_ <;> intro hc) | refine .lb ?_ | refine .ln ?_ | refine .ls ?_ | refine .pv ?_ | refine .ix ?_ | refine .pt ?_ | refine .pf ?_ | refine .bx ?_ | refine .al ?_ | refine .st ?_ | refine .ad ?_ | refine .sb ?_ | refine .mf ?_ | refine .cl ?_ | refine .cw ?_ | refine .ck ?_ | fail
  exact Fin.ret1 rfl (Weak.refl _)
theorem once_take {l : List Str} {k : Nat} (h : k < l.length) : (l.take (k + 1)).Nodup ↔ (l.take k).Nodup ∧ l[k] ∉ l.take k := by
  rw [List.take_succ_eq_append_getElem h, List.nodup_append]
  constructor
  · rintro ⟨h1, _, h3⟩
    exact ⟨h1, fun hm => h3 _ hm _ (List.mem_singleton.2 rfl) rfl⟩
  · rintro ⟨h1, h2⟩
    refine ⟨h1, by simp, fun a ha b hb => ?_⟩
    rw [List.mem_singleton.1 hb]
    rintro rfl
    exact h2 ha
theorem wOnce (l : List Str) (hl : l.length ≤ 68719476736) : PFn Tryz.prog 116 [.slice (l.map AV.str) .no] (.bool (onceB l)) := by
  refine AFn.plain rfl (by simp [AV.closed, AV.closedL, str_closedL]) (AFn.enter [2] Tryz.func116 rfl rfl rfl rfl rfl (by decide) ?_)
  unfold onceB
  repeat' first | refine .seq ?_ | refine .rg ?_ | refine .rd ?_ | refine .block ?_ | refine .scope ?_ | refine .skip ?_ | refine .label ?_ | refine .exit ?_ | refine .ret ?_ | refine .ct ?_ | refine .cf ?_ | refine .cy ?_ | refine .cn ?_ | (refine .cond rfl ?_ ?_ <;> intro hc) | refine A.nil_seq ?_ | refine .nl ?_ | refine .dd ?_ | refine .ys ?_ | refine .no ?_ | (refine A.guard rfl ?_ ?_ <;> intro hc) | refine .lb ?_ | refine .ln ?_ | refine .ls ?_ | refine .pv ?_ | refine .ix ?_ | refine .pt ?_ | refine .pf ?_ | refine .bx ?_ | refine .al ?_ | refine .st ?_ | refine .ad ?_ | refine .sb ?_ | refine .mf ?_ | refine .cl ?_ | refine .cw ?_ | refine .ck ?_ | fail
  refine HCode.forK l.length (fun k => [(7, .int .i64 k), (6, .int .i64 l.length), (5, .slice (l.map AV.str) .no), (0, .slice (l.map AV.str) .no)]) (fun _ => ⟨[], []⟩) (fun k => (l.take k).Nodup) ⟨rfl, rfl, rfl, rfl, trivial⟩ rfl (by simp) fun k hk hp => ?_
  by_cases h1 : k < l.length
  · have d1 : decide ((k : Int) < (l.length : Int)) = true := by simp [h1]
    have x1 := map_get' (f := AV.str) h1
    have ht := once_take h1
    have hct := sContainsStr (l.take k) l[k] (by rw [List.length_take]; omega)
    rw [List.map_take] at hct
    have hkl : k ≤ (l.map AV.str).length := by rw [List.length_map]; omega
    by_cases c : l[k] ∈ l.take k
    · rw [decide_eq_true c] at hct
      have hno : ¬ l.Nodup := fun hn => by
        have := (hn.sublist (List.take_sublist (k + 1) l))
        exact (ht.1 this).2 c
      rw [decide_eq_false hno]
      repeat' first | refine .seq ?_ | refine .rg ?_ | refine .rd ?_ | refine .block ?_ | refine .scope ?_ | refine .skip ?_ | refine .label ?_ | refine .exit ?_ | refine .ret ?_ | refine .ct ?_ | refine .cf ?_ | refine .cy ?_ | refine .cn ?_ | (refine .cond rfl ?_ ?_ <;> intro hc) | refine A.nil_seq ?_ | refine .nl ?_ | refine .dd ?_ | refine .ys ?_ | refine .no ?_ | (refine A.guard rfl ?_ ?_ <;> intro hc) | refine .lb ?_ | refine .ln ?_ | refine .ls ?_ | refine .pv ?_ | refine .ix ?_ | refine .pt ?_ | refine .pf ?_ | refine .bx ?_ | refine .al ?_ | refine .st ?_ | refine .ad ?_ | refine .sb ?_ | refine .mf ?_ | refine .cl ?_ | refine .cw ?_ | refine .ck ?_ | refine A.slice 0 k rfl rfl rfl rfl rfl rfl rfl rfl (Nat.zero_le _) hkl (.inl rfl) ?_ | fail
      exact Fin.ret1 rfl (Weak.refl _)
    · rw [decide_eq_false c] at hct
      repeat' first | refine .seq ?_ | refine .rg ?_ | refine .rd ?_ | refine .block ?_ | refine .scope ?_ | refine .skip ?_ | refine .label ?_ | refine .exit ?_ | refine .ret ?_ | refine .ct ?_ | refine .cf ?_ | refine .cy ?_ | refine .cn ?_ | (refine .cond rfl ?_ ?_ <;> intro hc) | refine A.nil_seq ?_ | refine .nl ?_ | refine .dd ?_ | refine .ys ?_ | refine .no ?_ | (refine A.guard rfl ?_ ?_ <;> intro hc) | refine .lb ?_ | refine .ln ?_ | refine .ls ?_ | refine .pv ?_ | refine .ix ?_ | refine .pt ?_ | refine .pf ?_ | refine .bx ?_ | refine .al ?_ | refine .st ?_ | refine .ad ?_ | refine .sb ?_ | refine .mf ?_ | refine .cl ?_ | refine .cw ?_ | refine .ck ?_ | refine A.slice 0 k rfl rfl rfl rfl rfl rfl rfl rfl (Nat.zero_le _) hkl (.inl rfl) ?_ | fail
      exact ⟨h1, ⟨rfl, rfl, rfl, rfl, trivial⟩, by simp [belowS, AV.low], rfl, rfl, ht.2 ⟨hp, c⟩⟩
  · have d1 : decide ((k : Int) < (l.length : Int)) = false := by simp; omega
    obtain rfl : k = l.length := by omega
    rw [List.take_length] at hp
    rw [decide_eq_true hp]
    repeat' first | refine .seq ?_ | refine .rg ?_ | refine .rd ?_ | refine .block ?_ | refine .scope ?_ | refine .skip ?_ | refine .label ?_ | refine .exit ?_ | refine .ret ?_ | refine .ct ?_ | refine .cf ?_ | refine .cy ?_ | refine .cn ?_ | (refine .cond rfl ?_ ?_ <;> intro hc) | refine A.nil_seq ?_ | refine .nl ?_ | refine .dd ?_ | refine .ys ?_ | refine .no ?_ | (refine A.guard rfl ?_ ?_ <;> intro hc) | refine .lb ?_ | refine .ln ?_ | refine .ls ?_ | refine .pv ?_ | refine .ix ?_ | refine .pt ?_ | refine .pf ?_ | refine .bx ?_ | refine .al ?_ | refine .st ?_ | refine .ad ?_ | refine .sb ?_ | refine .mf ?_ | refine .cl ?_ | refine .cw ?_ | refine .ck ?_ | fail
    exact Fin.ret1 rfl (Weak.refl _)
theorem wNameDfn (x : Dfn) : PFn Tryz.prog 114 [x.enc] (.str x.name) := by
  refine AFn.plain rfl (by simp [AV.closedL, Dfn.closed]) (AFn.enter [2] Tryz.func114 rfl rfl rfl rfl rfl (by decide) ?_)
  repeat' first | refine .br ?_ | refine .seq ?_ | refine .rg ?_ | refine .rd ?_ | refine .block ?_ | refine .scope ?_ | refine .skip ?_ | refine .label ?_ | refine .exit ?_ | refine .ret ?_ | refine .ct ?_ | refine .cf ?_ | refine .cy ?_ | refine .cn ?_ | (refine .cond rfl ?_ ?_ <;> intro hc) | refine A.nil_seq ?_ | refine .nl ?_ | refine .dd ?_ | refine .ys ?_ | refine .no ?_ | (refine A.guard rfl ?_ ?_ <;> intro hc) | refine .lb ?_ | refine .ln ?_ | refine .ls ?_ | refine .pv ?_ | refine .ix ?_ | refine .pt ?_ | refine .pf ?_ | refine .bx ?_ | refine .al ?_ | refine .st ?_ | refine .ad ?_ | refine .sb ?_ | refine .mf ?_ | refine .cl ?_ | refine .cw ?_ | refine .ck ?_ | fail
  exact Fin.ret1 rfl (Weak.refl _)
theorem wNamesDfn (l : List Dfn) (hl : l.length ≤ 68719476736) : PFn Tryz.prog 113 [.slice (l.map Dfn.enc) .no, .fn (.func 114) [] []] (.slice ((l.map Dfn.name).map AV.str) .no) := by
  refine AFn.plain (str_closedL _) (by simp [AV.closed, AV.closedL, Dfn.closedL]) (AFn.enter [4] Tryz.func113 rfl rfl rfl rfl rfl (by decide) ?_)
  repeat' first | refine .seq ?_ | refine .rg ?_ | refine .rd ?_ | refine .block ?_ | refine .scope ?_ | refine .skip ?_ | refine .label ?_ | refine .exit ?_ | refine .ret ?_ | refine .ct ?_ | refine .cf ?_ | refine .cy ?_ | refine .cn ?_ | (refine .cond rfl ?_ ?_ <;> intro hc) | refine A.nil_seq ?_ | refine .nl ?_ | refine .dd ?_ | refine .ys ?_ | refine .no ?_ | (refine A.guard rfl ?_ ?_ <;> intro hc) | refine .lb ?_ | refine .ln ?_ | refine .ls ?_ | refine .pv ?_ | refine .ix ?_ | refine .pt ?_ | refine .pf ?_ | refine .bx ?_ | refine .al ?_ | refine .st ?_ | refine .ad ?_ | refine .sb ?_ | refine .mf ?_ | refine .cl ?_ | refine .cw ?_ | refine .ck ?_ | fail
  refine HCode.adopt 5 false 1 rfl rfl rfl rfl rfl rfl ?_
  refine HCode.forK l.length (fun k => [(10, .int .i64 k), (9, .int .i64 l.length), (8, .slice (l.map Dfn.enc) .no), (1, .fn (.func 114) [] []), (5, .slice (((l.take k).map Dfn.name).map AV.str) (.own 0 1))])
    (fun k => ⟨[], [.len k]⟩) (fun _ => True) ⟨rfl, rfl, rfl, rfl, rfl, trivial⟩ rfl trivial fun k hk _ => ?_
  have htl : (((l.take k).map Dfn.name).map AV.str).length = k := by simp; omega
  by_cases h1 : k < l.length
  · have d1 : decide ((k : Int) < (l.length : Int)) = true := by simp [h1]
    have x1 := map_get' (f := Dfn.enc) h1
    have hn := wNameDfn l[k]
    repeat' first | refine .seq ?_ | refine .rg ?_ | refine .rd ?_ | refine .block ?_ | refine .scope ?_ | refine .skip ?_ | refine .label ?_ | refine .exit ?_ | refine .ret ?_ | refine .ct ?_ | refine .cf ?_ | refine .cy ?_ | refine .cn ?_ | (refine .cond rfl ?_ ?_ <;> intro hc) | refine A.nil_seq ?_ | refine .nl ?_ | refine .dd ?_ | refine .ys ?_ | refine .no ?_ | (refine A.guard rfl ?_ ?_ <;> intro hc) | refine .lb ?_ | refine .ln ?_ | refine .ls ?_ | refine .pv ?_ | refine .ix ?_ | refine .pt ?_ | refine .pf ?_ | refine .bx ?_ | refine .al ?_ | refine .st ?_ | refine .ad ?_ | refine .sb ?_ | refine .mf ?_ | refine .cl ?_ | refine .cw ?_ | refine .ck ?_ | refine A.append (n := k) rfl rfl rfl rfl rfl rfl rfl rfl htl rfl (by dsimp only [List.length_cons, List.length_nil]; omega) (by dsimp only [List.length_cons, List.length_nil]; omega) rfl ?_ | fail
    exact ⟨h1, ⟨rfl, rfl, rfl, rfl, by rw [List.take_succ_eq_append_getElem h1, List.map_append, List.map_append]; rfl, trivial⟩, by simp [-List.map_take, -List.map_map, belowS, AV.low, AV.lowL], by simp [belowB, belowT, Ob.low, Tok.low], rfl, trivial⟩
  · have d1 : decide ((k : Int) < (l.length : Int)) = false := by simp; omega
    obtain rfl : k = l.length := by omega
    rw [List.take_length]
    repeat' first | refine .seq ?_ | refine .rg ?_ | refine .rd ?_ | refine .block ?_ | refine .scope ?_ | refine .skip ?_ | refine .label ?_ | refine .exit ?_ | refine .ret ?_ | refine .ct ?_ | refine .cf ?_ | refine .cy ?_ | refine .cn ?_ | (refine .cond rfl ?_ ?_ <;> intro hc) | refine A.nil_seq ?_ | refine .nl ?_ | refine .dd ?_ | refine .ys ?_ | refine .no ?_ | (refine A.guard rfl ?_ ?_ <;> intro hc) | refine .lb ?_ | refine .ln ?_ | refine .ls ?_ | refine .pv ?_ | refine .ix ?_ | refine .pt ?_ | refine .pf ?_ | refine .bx ?_ | refine .al ?_ | refine .st ?_ | refine .ad ?_ | refine .sb ?_ | refine .mf ?_ | refine .cl ?_ | refine .cw ?_ | refine .ck ?_ | fail
    exact Fin.ret1 rfl (Weak.no (WeakL.refl _))
theorem wNameFld (x : Fld) : PFn Tryz.prog 124 [x.enc] (.str x.name) := by
  refine AFn.plain rfl (by simp [AV.closedL, Fld.closed]) (AFn.enter [2] Tryz.func124 rfl rfl rfl rfl rfl (by decide) ?_)
  repeat' first | refine .br ?_ | refine .seq ?_ | refine .rg ?_ | refine .rd ?_ | refine .block ?_ | refine .scope ?_ | refine .skip ?_ | refine .label ?_ | refine .exit ?_ | refine .ret ?_ | refine .ct ?_ | refine .cf ?_ | refine .cy ?_ | refine .cn ?_ | (refine .cond rfl ?_ ?_ <;> intro hc) | refine A.nil_seq ?_ | refine .nl ?_ | refine .dd ?_ | refine .ys ?_ | refine .no ?_ | (refine A.guard rfl ?_ ?_ <;> intro hc) | refine .lb ?_ | refine .ln ?_ | refine .ls ?_ | refine .pv ?_ | refine .ix ?_ | refine .pt ?_ | refine .pf ?_ | refine .bx ?_ | refine .al ?_ | refine .st ?_ | refine .ad ?_ | refine .sb ?_ | refine .mf ?_ | refine .cl ?_ | refine .cw ?_ | refine .ck ?_ | fail
  exact Fin.ret1 rfl (Weak.refl _)
theorem wNamesFld (l : List Fld) (hl : l.length ≤ 68719476736) : PFn Tryz.prog 123 [.slice (l.map Fld.enc) .no, .fn (.func 124) [] []] (.slice ((l.map Fld.name).map AV.str) .no) := by
  refine AFn.plain (str_closedL _) (by simp [AV.closed, AV.closedL, Fld.closedL]) (AFn.enter [4] Tryz.func123 rfl rfl rfl rfl rfl (by decide) ?_)
  repeat' first | refine .seq ?_ | refine .rg ?_ | refine .rd ?_ | refine .block ?_ | refine .scope ?_ | refine .skip ?_ | refine .label ?_ | refine .exit ?_ | refine .ret ?_ | refine .ct ?_ | refine .cf ?_ | refine .cy ?_ | refine .cn ?_ | (refine .cond rfl ?_ ?_ <;> intro hc) | refine A.nil_seq ?_ | refine .nl ?_ | refine .dd ?_ | refine .ys ?_ | refine .no ?_ | (refine A.guard rfl ?_ ?_ <;> intro hc) | refine .lb ?_ | refine .ln ?_ | refine .ls ?_ | refine .pv ?_ | refine .ix ?_ | refine .pt ?_ | refine .pf ?_ | refine .bx ?_ | refine .al ?_ | refine .st ?_ | refine .ad ?_ | refine .sb ?_ | refine .mf ?_ | refine .cl ?_ | refine .cw ?_ | refine .ck ?_ | fail
  refine HCode.adopt 5 false 1 rfl rfl rfl rfl rfl rfl ?_
  refine HCode.forK l.length (fun k => [(10, .int .i64 k), (9, .int .i64 l.length), (8, .slice (l.map Fld.enc) .no), (1, .fn (.func 124) [] []), (5, .slice (((l.take k).map Fld.name).map AV.str) (.own 0 1))])
    (fun k => ⟨[], [.len k]⟩) (fun _ => True) ⟨rfl, rfl, rfl, rfl, rfl, trivial⟩ rfl trivial fun k hk _ => ?_
  have htl : (((l.take k).map Fld.name).map AV.str).length = k := by simp; omega
  by_cases h1 : k < l.length
  · have d1 : decide ((k : Int) < (l.length : Int)) = true := by simp [h1]
    have x1 := map_get' (f := Fld.enc) h1
    have hn := wNameFld l[k]
    repeat' first | refine .seq ?_ | refine .rg ?_ | refine .rd ?_ | refine .block ?_ | refine .scope ?_ | refine .skip ?_ | refine .label ?_ | refine .exit ?_ | refine .ret ?_ | refine .ct ?_ | refine .cf ?_ | refine .cy ?_ | refine .cn ?_ | (refine .cond rfl ?_ ?_ <;> intro hc) | refine A.nil_seq ?_ | refine .nl ?_ | refine .dd ?_ | refine .ys ?_ | refine .no ?_ | (refine A.guard rfl ?_ ?_ <;> intro hc) | refine .lb ?_ | refine .ln ?_ | refine .ls ?_ | refine .pv ?_ | refine .ix ?_ | refine .pt ?_ | refine .pf ?_ | refine .bx ?_ | refine .al ?_ | refine .st ?_ | refine .ad ?_ | refine .sb ?_ | refine .mf ?_ | refine .cl ?_ | refine .cw ?_ | refine .ck ?_ | refine A.append (n := k) rfl rfl rfl rfl rfl rfl rfl rfl htl rfl (by dsimp only [List.length_cons, List.length_nil]; omega) (by dsimp only [List.length_cons, List.length_nil]; omega) rfl ?_ | fail
    exact ⟨h1, ⟨rfl, rfl, rfl, rfl, by rw [List.take_succ_eq_append_getElem h1, List.map_append, List.map_append]; rfl, trivial⟩, by simp [-List.map_take, -List.map_map, belowS, AV.low, AV.lowL], by simp [belowB, belowT, Ob.low, Tok.low], rfl, trivial⟩
  · have d1 : decide ((k : Int) < (l.length : Int)) = false := by simp; omega
    obtain rfl : k = l.length := by omega
    rw [List.take_length]
    repeat' first | refine .seq ?_ | refine .rg ?_ | refine .rd ?_ | refine .block ?_ | refine .scope ?_ | refine .skip ?_ | refine .label ?_ | refine .exit ?_ | refine .ret ?_ | refine .ct ?_ | refine .cf ?_ | refine .cy ?_ | refine .cn ?_ | (refine .cond rfl ?_ ?_ <;> intro hc) | refine A.nil_seq ?_ | refine .nl ?_ | refine .dd ?_ | refine .ys ?_ | refine .no ?_ | (refine A.guard rfl ?_ ?_ <;> intro hc) | refine .lb ?_ | refine .ln ?_ | refine .ls ?_ | refine .pv ?_ | refine .ix ?_ | refine .pt ?_ | refine .pf ?_ | refine .bx ?_ | refine .al ?_ | refine .st ?_ | refine .ad ?_ | refine .sb ?_ | refine .mf ?_ | refine .cl ?_ | refine .cw ?_ | refine .ck ?_ | fail
    exact Fin.ret1 rfl (Weak.no (WeakL.refl _))
theorem wNamePar (x : Par) : PFn Tryz.prog 126 [x.enc] (.str x.name) := by
  refine AFn.plain rfl (by simp [AV.closedL, Par.closed]) (AFn.enter [2] Tryz.func126 rfl rfl rfl rfl rfl (by decide) ?_)
  repeat' first | refine .br ?_ | refine .seq ?_ | refine .rg ?_ | refine .rd ?_ | refine .block ?_ | refine .scope ?_ | refine .skip ?_ | refine .label ?_ | refine .exit ?_ | refine .ret ?_ | refine .ct ?_ | refine .cf ?_ | refine .cy ?_ | refine .cn ?_ | (refine .cond rfl ?_ ?_ <;> intro hc) | refine A.nil_seq ?_ | refine .nl ?_ | refine .dd ?_ | refine .ys ?_ | refine .no ?_ | (refine A.guard rfl ?_ ?_ <;> intro hc) | refine .lb ?_ | refine .ln ?_ | refine .ls ?_ | refine .pv ?_ | refine .ix ?_ | refine .pt ?_ | refine .pf ?_ | refine .bx ?_ | refine .al ?_ | refine .st ?_ | refine .ad ?_ | refine .sb ?_ | refine .mf ?_ | refine .cl ?_ | refine .cw ?_ | refine .ck ?_ | fail
  exact Fin.ret1 rfl (Weak.refl _)
theorem wNamesPar (l : List Par) (hl : l.length ≤ 68719476736) : PFn Tryz.prog 125 [.slice (l.map Par.enc) .no, .fn (.func 126) [] []] (.slice ((l.map Par.name).map AV.str) .no) := by
  refine AFn.plain (str_closedL _) (by simp [AV.closed, AV.closedL, Par.closedL]) (AFn.enter [4] Tryz.func125 rfl rfl rfl rfl rfl (by decide) ?_)
  repeat' first | refine .seq ?_ | refine .rg ?_ | refine .rd ?_ | refine .block ?_ | refine .scope ?_ | refine .skip ?_ | refine .label ?_ | refine .exit ?_ | refine .ret ?_ | refine .ct ?_ | refine .cf ?_ | refine .cy ?_ | refine .cn ?_ | (refine .cond rfl ?_ ?_ <;> intro hc) | refine A.nil_seq ?_ | refine .nl ?_ | refine .dd ?_ | refine .ys ?_ | refine .no ?_ | (refine A.guard rfl ?_ ?_ <;> intro hc) | refine .lb ?_ | refine .ln ?_ | refine .ls ?_ | refine .pv ?_ | refine .ix ?_ | refine .pt ?_ | refine .pf ?_ | refine .bx ?_ | refine .al ?_ | refine .st ?_ | refine .ad ?_ | refine .sb ?_ | refine .mf ?_ | refine .cl ?_ | refine .cw ?_ | refine .ck ?_ | fail
  refine HCode.adopt 5 false 1 rfl rfl rfl rfl rfl rfl ?_
  refine HCode.forK l.length (fun k => [(10, .int .i64 k), (9, .int .i64 l.length), (8, .slice (l.map Par.enc) .no), (1, .fn (.func 126) [] []), (5, .slice (((l.take k).map Par.name).map AV.str) (.own 0 1))])
    (fun k => ⟨[], [.len k]⟩) (fun _ => True) ⟨rfl, rfl, rfl, rfl, rfl, trivial⟩ rfl trivial fun k hk _ => ?_
  have htl : (((l.take k).map Par.name).map AV.str).length = k := by simp; omega
  by_cases h1 : k < l.length
  · have d1 : decide ((k : Int) < (l.length : Int)) = true := by simp [h1]
    have x1 := map_get' (f := Par.enc) h1
    have hn := wNamePar l[k]
    repeat' first | refine .seq ?_ | refine .rg ?_ | refine .rd ?_ | refine .block ?_ | refine .scope ?_ | refine .skip ?_ | refine .label ?_ | refine .exit ?_ | refine .ret ?_ | refine .ct ?_ | refine .cf ?_ | refine .cy ?_ | refine .cn ?_ | (refine .cond rfl ?_ ?_ <;> intro hc) | refine A.nil_seq ?_ | refine .nl ?_ | refine .dd ?_ | refine .ys ?_ | refine .no ?_ | (refine A.guard rfl ?_ ?_ <;> intro hc) | refine .lb ?_ | refine .ln ?_ | refine .ls ?_ | refine .pv ?_ | refine .ix ?_ | refine .pt ?_ | refine .pf ?_ | refine .bx ?_ | refine .al ?_ | refine .st ?_ | refine .ad ?_ | refine .sb ?_ | refine .mf ?_ | refine .cl ?_ | refine .cw ?_ | refine .ck ?_ | refine A.append (n := k) rfl rfl rfl rfl rfl rfl rfl rfl htl rfl (by dsimp only [List.length_cons, List.length_nil]; omega) (by dsimp only [List.length_cons, List.length_nil]; omega) rfl ?_ | fail
    exact ⟨h1, ⟨rfl, rfl, rfl, rfl, by rw [List.take_succ_eq_append_getElem h1, List.map_append, List.map_append]; rfl, trivial⟩, by simp [-List.map_take, -List.map_map, belowS, AV.low, AV.lowL], by simp [belowB, belowT, Ob.low, Tok.low], rfl, trivial⟩
  · have d1 : decide ((k : Int) < (l.length : Int)) = false := by simp; omega
    obtain rfl : k = l.length := by omega
    rw [List.take_length]
    repeat' first | refine .seq ?_ | refine .rg ?_ | refine .rd ?_ | refine .block ?_ | refine .scope ?_ | refine .skip ?_ | refine .label ?_ | refine .exit ?_ | refine .ret ?_ | refine .ct ?_ | refine .cf ?_ | refine .cy ?_ | refine .cn ?_ | (refine .cond rfl ?_ ?_ <;> intro hc) | refine A.nil_seq ?_ | refine .nl ?_ | refine .dd ?_ | refine .ys ?_ | refine .no ?_ | (refine A.guard rfl ?_ ?_ <;> intro hc) | refine .lb ?_ | refine .ln ?_ | refine .ls ?_ | refine .pv ?_ | refine .ix ?_ | refine .pt ?_ | refine .pf ?_ | refine .bx ?_ | refine .al ?_ | refine .st ?_ | refine .ad ?_ | refine .sb ?_ | refine .mf ?_ | refine .cl ?_ | refine .cw ?_ | refine .ck ?_ | fail
    exact Fin.ret1 rfl (Weak.no (WeakL.refl _))
theorem wEvery1 (F : FuncId) (cs : List AV) (d : Dfn) (b : Bool) (hcs : AV.closedL cs = true) (hF : PFn Tryz.prog F (d.enc :: cs) (.bool b)) : PFn Tryz.prog 183 [d.enc, .rptr (.fn (.func F) [] cs)] (.bool (!b)) := by
  refine AFn.plain rfl (by simp [AV.closed, AV.closedL, Dfn.closed, hcs]) (AFn.enter [3] Tryz.func183 rfl rfl rfl rfl rfl (by decide) ?_)
  repeat' first | refine .br ?_ | refine .seq ?_ | refine .rg ?_ | refine .rd ?_ | refine .block ?_ | refine .scope ?_ | refine .skip ?_ | refine .label ?_ | refine .exit ?_ | refine .ret ?_ | refine .ct ?_ | refine .cf ?_ | refine .cy ?_ | refine .cn ?_ | (refine .cond rfl ?_ ?_ <;> intro hc) | refine A.nil_seq ?_ | refine .nl ?_ | refine .dd ?_ | refine .ys ?_ | refine .no ?_ | (refine A.guard rfl ?_ ?_ <;> intro hc) | refine .lb ?_ | refine .ln ?_ | refine .ls ?_ | refine .pv ?_ | refine .ix ?_ | refine .pt ?_ | refine .pf ?_ | refine .bx ?_ | refine .al ?_ | refine .st ?_ | refine .ad ?_ | refine .sb ?_ | refine .mf ?_ | refine .cl ?_ | refine .cw ?_ | refine .ck ?_ | fail
  exact Fin.ret1 rfl (Weak.refl _)
theorem wEvery (s : Sch) (F : FuncId) (cs : List AV) (f : Dfn → Bool) (hs : s.size ≤ 68719476736) (hcs : AV.closedL cs = true) (hF : ∀ d ∈ s.defs, PFn Tryz.prog F (d.enc :: cs) (.bool (f d))) : PFn Tryz.prog 121 [s.enc, .fn (.func F) [] cs] (.bool (everyB s f)) := by
  have hl := s.len
  have h := sContainsFDfn s.defs 183 [.rptr (.fn (.func F) [] cs)] (fun d => !f d) (by omega) (by simp [AV.closed, AV.closedL, hcs]) (fun d hd => wEvery1 F cs d (f d) hcs (hF d hd))
  refine AFn.plain rfl (by simp [AV.closed, AV.closedL, Sch.closed, hcs]) (AFn.enter [4] Tryz.func121 rfl rfl rfl rfl rfl (by decide) ?_)
  unfold everyB
  repeat' first | refine .br ?_ | refine .seq ?_ | refine .rg ?_ | refine .rd ?_ | refine .block ?_ | refine .scope ?_ | refine .skip ?_ | refine .label ?_ | refine .exit ?_ | refine .ret ?_ | refine .ct ?_ | refine .cf ?_ | refine .cy ?_ | refine .cn ?_ | (refine .cond rfl ?_ ?_ <;> intro hc) | refine A.nil_seq ?_ | refine .nl ?_ | refine .dd ?_ | refine .ys ?_ | refine .no ?_ | (refine A.guard rfl ?_ ?_ <;> intro hc) | refine .lb ?_ | refine .ln ?_ | refine .ls ?_ | refine .pv ?_ | refine .ix ?_ | refine .pt ?_ | refine .pf ?_ | refine .bx ?_ | refine .al ?_ | refine .st ?_ | refine .ad ?_ | refine .sb ?_ | refine .mf ?_ | refine .cl ?_ | refine .cw ?_ | refine .ck ?_ | fail
  exact Fin.ret1 rfl (Weak.refl _)
theorem wRoots (s : Sch) (hs : s.size ≤ 68719476736) : PFn Tryz.prog 75 [s.enc] (.bool (rootsB s)) := by
  have h1 := dKind s s.query [1] hs (by decide)
  have h2 := dKind s s.mutation [1] hs (by decide)
  refine AFn.plain rfl (by simp [AV.closedL, Sch.closed]) (AFn.enter [2] Tryz.func75 rfl rfl rfl rfl rfl (by decide) ?_)
  unfold rootsB
  cases c1 : kindB s s.query [1] <;> rw [c1] at h1
  · repeat' first | refine .br ?_ | refine .seq ?_ | refine .rg ?_ | refine .rd ?_ | refine .block ?_ | refine .scope ?_ | refine .skip ?_ | refine .label ?_ | refine .exit ?_ | refine .ret ?_ | refine .ct ?_ | refine .cf ?_ | refine .cy ?_ | refine .cn ?_ | (refine .cond rfl ?_ ?_ <;> intro hc) | refine A.nil_seq ?_ | refine .nl ?_ | refine .dd ?_ | refine .ys ?_ | refine .no ?_ | (refine A.guard rfl ?_ ?_ <;> intro hc) | refine .lb ?_ | refine .ln ?_ | refine .ls ?_ | refine .pv ?_ | refine .ix ?_ | refine .pt ?_ | refine .pf ?_ | refine .bx ?_ | refine .al ?_ | refine .st ?_ | refine .ad ?_ | refine .sb ?_ | refine .mf ?_ | refine .cl ?_ | refine .cw ?_ | refine .ck ?_ | refine A.call rfl h1 (WeakL.cons (Weak.refl _) (WeakL.cons (Weak.refl _) (WeakL.cons (Weak.no (WeakL.refl _)) (WeakL.refl _)))) ?_ | refine A.call rfl h2 (WeakL.cons (Weak.refl _) (WeakL.cons (Weak.refl _) (WeakL.cons (Weak.no (WeakL.refl _)) (WeakL.refl _)))) ?_ | fail
    exact Fin.ret1 rfl (Weak.refl _)
  cases c2 : (s.mutation == [])
  · cases c3 : (s.mutation != s.query)
    all_goals
      repeat' first | refine .br ?_ | refine .seq ?_ | refine .rg ?_ | refine .rd ?_ | refine .block ?_ | refine .scope ?_ | refine .skip ?_ | refine .label ?_ | refine .exit ?_ | refine .ret ?_ | refine .ct ?_ | refine .cf ?_ | refine .cy ?_ | refine .cn ?_ | (refine .cond rfl ?_ ?_ <;> intro hc) | refine A.nil_seq ?_ | refine .nl ?_ | refine .dd ?_ | refine .ys ?_ | refine .no ?_ | (refine A.guard rfl ?_ ?_ <;> intro hc) | refine .lb ?_ | refine .ln ?_ | refine .ls ?_ | refine .pv ?_ | refine .ix ?_ | refine .pt ?_ | refine .pf ?_ | refine .bx ?_ | refine .al ?_ | refine .st ?_ | refine .ad ?_ | refine .sb ?_ | refine .mf ?_ | refine .cl ?_ | refine .cw ?_ | refine .ck ?_ | refine A.call rfl h1 (WeakL.cons (Weak.refl _) (WeakL.cons (Weak.refl _) (WeakL.cons (Weak.no (WeakL.refl _)) (WeakL.refl _)))) ?_ | refine A.call rfl h2 (WeakL.cons (Weak.refl _) (WeakL.cons (Weak.refl _) (WeakL.cons (Weak.no (WeakL.refl _)) (WeakL.refl _)))) ?_ | fail
      exact Fin.ret1 rfl (Weak.refl _)
  · repeat' first | refine .br ?_ | refine .seq ?_ | refine .rg ?_ | refine .rd ?_ | refine .block ?_ | refine .scope ?_ | refine .skip ?_ | refine .label ?_ | refine .exit ?_ | refine .ret ?_ | refine .ct ?_ | refine .cf ?_ | refine .cy ?_ | refine .cn ?_ | (refine .cond rfl ?_ ?_ <;> intro hc) | refine A.nil_seq ?_ | refine .nl ?_ | refine .dd ?_ | refine .ys ?_ | refine .no ?_ | (refine A.guard rfl ?_ ?_ <;> intro hc) | refine .lb ?_ | refine .ln ?_ | refine .ls ?_ | refine .pv ?_ | refine .ix ?_ | refine .pt ?_ | refine .pf ?_ | refine .bx ?_ | refine .al ?_ | refine .st ?_ | refine .ad ?_ | refine .sb ?_ | refine .mf ?_ | refine .cl ?_ | refine .cw ?_ | refine .ck ?_ | refine A.call rfl h1 (WeakL.cons (Weak.refl _) (WeakL.cons (Weak.refl _) (WeakL.cons (Weak.no (WeakL.refl _)) (WeakL.refl _)))) ?_ | refine A.call rfl h2 (WeakL.cons (Weak.refl _) (WeakL.cons (Weak.refl _) (WeakL.cons (Weak.no (WeakL.refl _)) (WeakL.refl _)))) ?_ | fail
    exact Fin.ret1 rfl (Weak.refl _)
theorem wGoodNames (l : List Str) (hl : strsSize l ≤ 68719476736) : PFn Tryz.prog 120 [.slice (l.map AV.str) .no] (.bool (goodNames l)) := by
  have hlen : l.length ≤ 68719476736 := by have := sumSize_length (size := fun s : Str => s.length + 1) (fun _ => by omega) l; unfold strsSize at hl; omega
  have h1 := wOnce l hlen
  have h2 := wForeign l hl
  refine AFn.plain rfl (by simp [AV.closed, AV.closedL, str_closedL]) (AFn.enter [2] Tryz.func120 rfl rfl rfl rfl rfl (by decide) ?_)
  unfold goodNames
  repeat' first | refine .seq ?_ | refine .rg ?_ | refine .rd ?_ | refine .block ?_ | refine .scope ?_ | refine .skip ?_ | refine .label ?_ | refine .exit ?_ | refine .ret ?_ | refine .ct ?_ | refine .cf ?_ | refine .cy ?_ | refine .cn ?_ | (refine .cond rfl ?_ ?_ <;> intro hc) | refine A.nil_seq ?_ | refine .nl ?_ | refine .dd ?_ | refine .ys ?_ | refine .no ?_ | (refine A.guard rfl ?_ ?_ <;> intro hc) | refine .lb ?_ | refine .ln ?_ | refine .ls ?_ | refine .pv ?_ | refine .ix ?_ | refine .pt ?_ | refine .pf ?_ | refine .bx ?_ | refine .al ?_ | refine .st ?_ | refine .ad ?_ | refine .sb ?_ | refine .mf ?_ | refine .cl ?_ | refine .cw ?_ | refine .ck ?_ | fail
  all_goals
    refine Fin.ret1 rfl (Weak.eq (congrArg AV.bool ?_))
    simp_all
theorem names_size {α : Type} {n : α → Str} {size : α → Nat} (h : ∀ x, (n x).length + 1 ≤ size x) (l : List α) : strsSize (l.map n) ≤ sumSize size l + 1 := by
  unfold strsSize
  have : sumSize (fun s : Str => s.length + 1) (l.map n) ≤ sumSize size l := by
    induction l with
    | nil => simp [sumSize]
    | cons x l ih => simp only [List.map_cons, sumSize]; have := h x; omega
  omega
theorem Fld.name_size (f : Fld) : f.name.length + 1 ≤ f.size := by unfold Fld.size; omega
theorem Par.name_size (f : Par) : f.name.length + 1 ≤ f.size := by unfold Par.size; omega
theorem Dfn.name_size (f : Dfn) : f.name.length + 1 ≤ f.size := by unfold Dfn.size; omega
theorem wSingle1 (f : Fld) (hf : f.size ≤ 1048640) : PFn Tryz.prog 127 [f.enc, .rptr (.fn (.func 120) [] [])] (.bool (!goodNames (f.params.map Par.name))) := by
  have hp : sumSize Par.size f.params ≤ f.size := by unfold Fld.size; omega
  have hl := sumSize_length Par.size_pos f.params
  have h1 := wNamesPar f.params (by omega)
  have h2 := wGoodNames (f.params.map Par.name) (by have := names_size Par.name_size f.params; omega)
  refine AFn.plain rfl (by simp [AV.closed, AV.closedL, Fld.closed]) (AFn.enter [3] Tryz.func127 rfl rfl rfl rfl rfl (by decide) ?_)
  repeat' first | refine .br ?_ | refine .seq ?_ | refine .rg ?_ | refine .rd ?_ | refine .block ?_ | refine .scope ?_ | refine .skip ?_ | refine .label ?_ | refine .exit ?_ | refine .ret ?_ | refine .ct ?_ | refine .cf ?_ | refine .cy ?_ | refine .cn ?_ | (refine .cond rfl ?_ ?_ <;> intro hc) | refine A.nil_seq ?_ | refine .nl ?_ | refine .dd ?_ | refine .ys ?_ | refine .no ?_ | (refine A.guard rfl ?_ ?_ <;> intro hc) | refine .lb ?_ | refine .ln ?_ | refine .ls ?_ | refine .pv ?_ | refine .ix ?_ | refine .pt ?_ | refine .pf ?_ | refine .bx ?_ | refine .al ?_ | refine .st ?_ | refine .ad ?_ | refine .sb ?_ | refine .mf ?_ | refine .cl ?_ | refine .cw ?_ | refine .ck ?_ | fail
  exact Fin.ret1 rfl (Weak.refl _)
theorem wSingle2 (d : Dfn) (hd : d.size ≤ 1048640) : PFn Tryz.prog 122 [d.enc, .rptr (.fn (.func 120) [] [])] (.bool (sole1 d)) := by
  have hz : sumSize Fld.size d.fields ≤ d.size ∧ sumSize Par.size d.params ≤ d.size := by unfold Dfn.size; omega
  have hl := d.lens
  have h1 := wNamesFld d.fields (by omega)
  have h2 := wGoodNames (d.fields.map Fld.name) (by have := names_size Fld.name_size d.fields; omega)
  have h3 := wNamesPar d.params (by omega)
  have h4 := wGoodNames (d.params.map Par.name) (by have := names_size Par.name_size d.params; omega)
  have h5 := wOnce d.parts (by omega)
  have h6 := wOnce d.faces (by omega)
  have h7 := sContainsFFld d.fields 127 [.rptr (.fn (.func 120) [] [])] (fun f => !goodNames (f.params.map Par.name)) (by omega) rfl (fun f hf => wSingle1 f (by have := sumSize_mem (size := Fld.size) hf; omega))
  refine AFn.plain rfl (by simp [AV.closed, AV.closedL, Dfn.closed]) (AFn.enter [3] Tryz.func122 rfl rfl rfl rfl rfl (by decide) ?_)
  unfold sole1
  cases c1 : goodNames (d.fields.map Fld.name) <;> rw [c1] at h2
  · repeat' first | refine .br ?_ | refine .seq ?_ | refine .rg ?_ | refine .rd ?_ | refine .block ?_ | refine .scope ?_ | refine .skip ?_ | refine .label ?_ | refine .exit ?_ | refine .ret ?_ | refine .ct ?_ | refine .cf ?_ | refine .cy ?_ | refine .cn ?_ | (refine .cond rfl ?_ ?_ <;> intro hc) | refine A.nil_seq ?_ | refine .nl ?_ | refine .dd ?_ | refine .ys ?_ | refine .no ?_ | (refine A.guard rfl ?_ ?_ <;> intro hc) | refine .lb ?_ | refine .ln ?_ | refine .ls ?_ | refine .pv ?_ | refine .ix ?_ | refine .pt ?_ | refine .pf ?_ | refine .bx ?_ | refine .al ?_ | refine .st ?_ | refine .ad ?_ | refine .sb ?_ | refine .mf ?_ | refine .cl ?_ | refine .cw ?_ | refine .ck ?_ | fail
    exact Fin.ret1 rfl (Weak.refl _)
  cases c2 : goodNames (d.params.map Par.name) <;> rw [c2] at h4
  · repeat' first | refine .br ?_ | refine .seq ?_ | refine .rg ?_ | refine .rd ?_ | refine .block ?_ | refine .scope ?_ | refine .skip ?_ | refine .label ?_ | refine .exit ?_ | refine .ret ?_ | refine .ct ?_ | refine .cf ?_ | refine .cy ?_ | refine .cn ?_ | (refine .cond rfl ?_ ?_ <;> intro hc) | refine A.nil_seq ?_ | refine .nl ?_ | refine .dd ?_ | refine .ys ?_ | refine .no ?_ | (refine A.guard rfl ?_ ?_ <;> intro hc) | refine .lb ?_ | refine .ln ?_ | refine .ls ?_ | refine .pv ?_ | refine .ix ?_ | refine .pt ?_ | refine .pf ?_ | refine .bx ?_ | refine .al ?_ | refine .st ?_ | refine .ad ?_ | refine .sb ?_ | refine .mf ?_ | refine .cl ?_ | refine .cw ?_ | refine .ck ?_ | fail
    exact Fin.ret1 rfl (Weak.refl _)
  cases c3 : onceB d.parts <;> rw [c3] at h5
  · repeat' first | refine .br ?_ | refine .seq ?_ | refine .rg ?_ | refine .rd ?_ | refine .block ?_ | refine .scope ?_ | refine .skip ?_ | refine .label ?_ | refine .exit ?_ | refine .ret ?_ | refine .ct ?_ | refine .cf ?_ | refine .cy ?_ | refine .cn ?_ | (refine .cond rfl ?_ ?_ <;> intro hc) | refine A.nil_seq ?_ | refine .nl ?_ | refine .dd ?_ | refine .ys ?_ | refine .no ?_ | (refine A.guard rfl ?_ ?_ <;> intro hc) | refine .lb ?_ | refine .ln ?_ | refine .ls ?_ | refine .pv ?_ | refine .ix ?_ | refine .pt ?_ | refine .pf ?_ | refine .bx ?_ | refine .al ?_ | refine .st ?_ | refine .ad ?_ | refine .sb ?_ | refine .mf ?_ | refine .cl ?_ | refine .cw ?_ | refine .ck ?_ | fail
    exact Fin.ret1 rfl (Weak.refl _)
  cases c4 : onceB d.faces <;> rw [c4] at h6
  · repeat' first | refine .br ?_ | refine .seq ?_ | refine .rg ?_ | refine .rd ?_ | refine .block ?_ | refine .scope ?_ | refine .skip ?_ | refine .label ?_ | refine .exit ?_ | refine .ret ?_ | refine .ct ?_ | refine .cf ?_ | refine .cy ?_ | refine .cn ?_ | (refine .cond rfl ?_ ?_ <;> intro hc) | refine A.nil_seq ?_ | refine .nl ?_ | refine .dd ?_ | refine .ys ?_ | refine .no ?_ | (refine A.guard rfl ?_ ?_ <;> intro hc) | refine .lb ?_ | refine .ln ?_ | refine .ls ?_ | refine .pv ?_ | refine .ix ?_ | refine .pt ?_ | refine .pf ?_ | refine .bx ?_ | refine .al ?_ | refine .st ?_ | refine .ad ?_ | refine .sb ?_ | refine .mf ?_ | refine .cl ?_ | refine .cw ?_ | refine .ck ?_ | fail
    exact Fin.ret1 rfl (Weak.refl _)
  repeat' first | refine .br ?_ | refine .seq ?_ | refine .rg ?_ | refine .rd ?_ | refine .block ?_ | refine .scope ?_ | refine .skip ?_ | refine .label ?_ | refine .exit ?_ | refine .ret ?_ | refine .ct ?_ | refine .cf ?_ | refine .cy ?_ | refine .cn ?_ | (refine .cond rfl ?_ ?_ <;> intro hc) | refine A.nil_seq ?_ | refine .nl ?_ | refine .dd ?_ | refine .ys ?_ | refine .no ?_ | (refine A.guard rfl ?_ ?_ <;> intro hc) | refine .lb ?_ | refine .ln ?_ | refine .ls ?_ | refine .pv ?_ | refine .ix ?_ | refine .pt ?_ | refine .pf ?_ | refine .bx ?_ | refine .al ?_ | refine .st ?_ | refine .ad ?_ | refine .sb ?_ | refine .mf ?_ | refine .cl ?_ | refine .cw ?_ | refine .ck ?_ | fail
  exact Fin.ret1 rfl (Weak.refl _)
theorem wSingle (s : Sch) (hs : s.size ≤ 1048640) : PFn Tryz.prog 76 [s.enc] (.bool (soleB s)) := by
  have h := wEvery s 122 [.rptr (.fn (.func 120) [] [])] sole1 (by omega) rfl (fun d hd => wSingle2 d (by have := Sch.dfn hd; omega))
  refine AFn.plain rfl (by simp [AV.closedL, Sch.closed]) (AFn.enter [2] Tryz.func76 rfl rfl rfl rfl rfl (by decide) ?_)
  unfold soleB
  repeat' first | refine .br ?_ | refine A.allocv (d := 3) rfl rfl rfl rfl rfl ?_ | refine HCode.turn 3 rfl (Turn.freezeP rfl rfl rfl rfl) ?_ | refine .seq ?_ | refine .rg ?_ | refine .rd ?_ | refine .block ?_ | refine .scope ?_ | refine .skip ?_ | refine .label ?_ | refine .exit ?_ | refine .ret ?_ | refine .ct ?_ | refine .cf ?_ | refine .cy ?_ | refine .cn ?_ | (refine .cond rfl ?_ ?_ <;> intro hc) | refine A.nil_seq ?_ | refine .nl ?_ | refine .dd ?_ | refine .ys ?_ | refine .no ?_ | (refine A.guard rfl ?_ ?_ <;> intro hc) | refine .lb ?_ | refine .ln ?_ | refine .ls ?_ | refine .pv ?_ | refine .ix ?_ | refine .pt ?_ | refine .pf ?_ | refine .bx ?_ | refine .al ?_ | refine .st ?_ | refine .ad ?_ | refine .sb ?_ | refine .mf ?_ | refine .cl ?_ | refine .cw ?_ | refine .ck ?_ | refine A.vstore (agg := false) rfl rfl rfl rfl rfl rfl rfl rfl rfl rfl rfl ?_ | fail
  exact Fin.ret1 rfl (Weak.refl _)
theorem wEntries1 (s : Sch) (p : Par) (hs : s.size ≤ 68719476736) : PFn Tryz.prog 184 [p.enc, .rptr s.enc] (.bool (!entryB s p.t.name)) := by
  have h := dEntry s p.t.name hs
  refine AFn.plain rfl (by simp [AV.closed, AV.closedL, Par.closed, Sch.closed]) (AFn.enter [3] Tryz.func184 rfl rfl rfl rfl rfl (by decide) ?_)
  repeat' first | refine .br ?_ | refine .seq ?_ | refine .rg ?_ | refine .rd ?_ | refine .block ?_ | refine .scope ?_ | refine .skip ?_ | refine .label ?_ | refine .exit ?_ | refine .ret ?_ | refine .ct ?_ | refine .cf ?_ | refine .cy ?_ | refine .cn ?_ | (refine .cond rfl ?_ ?_ <;> intro hc) | refine A.nil_seq ?_ | refine .nl ?_ | refine .dd ?_ | refine .ys ?_ | refine .no ?_ | (refine A.guard rfl ?_ ?_ <;> intro hc) | refine .lb ?_ | refine .ln ?_ | refine .ls ?_ | refine .pv ?_ | refine .ix ?_ | refine .pt ?_ | refine .pf ?_ | refine .bx ?_ | refine .al ?_ | refine .st ?_ | refine .ad ?_ | refine .sb ?_ | refine .mf ?_ | refine .cl ?_ | refine .cw ?_ | refine .ck ?_ | fail
  exact Fin.ret1 rfl (Weak.refl _)
theorem wEntries (s : Sch) (l : List Par) (hs : s.size ≤ 68719476736) (hl : l.length ≤ 68719476736) : PFn Tryz.prog 129 [s.enc, .slice (l.map Par.enc) .no] (.bool (entriesB s l)) := by
  have h := sContainsFPar l 184 [.rptr s.enc] (fun p => !entryB s p.t.name) (by omega) (by simp [AV.closed, AV.closedL, Sch.closed]) (fun p _ => wEntries1 s p hs)
  refine AFn.plain rfl (by simp [AV.closed, AV.closedL, Par.closedL, Sch.closed]) (AFn.enter [4] Tryz.func129 rfl rfl rfl rfl rfl (by decide) ?_)
  unfold entriesB
  repeat' first | refine .br ?_ | refine .seq ?_ | refine .rg ?_ | refine .rd ?_ | refine .block ?_ | refine .scope ?_ | refine .skip ?_ | refine .label ?_ | refine .exit ?_ | refine .ret ?_ | refine .ct ?_ | refine .cf ?_ | refine .cy ?_ | refine .cn ?_ | (refine .cond rfl ?_ ?_ <;> intro hc) | refine A.nil_seq ?_ | refine .nl ?_ | refine .dd ?_ | refine .ys ?_ | refine .no ?_ | (refine A.guard rfl ?_ ?_ <;> intro hc) | refine .lb ?_ | refine .ln ?_ | refine .ls ?_ | refine .pv ?_ | refine .ix ?_ | refine .pt ?_ | refine .pf ?_ | refine .bx ?_ | refine .al ?_ | refine .st ?_ | refine .ad ?_ | refine .sb ?_ | refine .mf ?_ | refine .cl ?_ | refine .cw ?_ | refine .ck ?_ | fail
  exact Fin.ret1 rfl (Weak.refl _)
theorem wTyped2 (s : Sch) (f : Fld) (hs : s.size ≤ 68719476736) (hl : f.params.length ≤ 68719476736) : PFn Tryz.prog 130 [f.enc, .rptr s.enc] (.bool ((!leafB s f.t.name && !compB s f.t.name) || !entriesB s f.params)) := by
  have h1 := dLeaf s f.t.name hs
  have h2 := dComposite s f.t.name hs
  have h3 := wEntries s f.params hs hl
  refine AFn.plain rfl (by simp [AV.closed, AV.closedL, Fld.closed, Sch.closed]) (AFn.enter [3] Tryz.func130 rfl rfl rfl rfl rfl (by decide) ?_)
  cases c1 : leafB s f.t.name <;> rw [c1] at h1 <;> cases c2 : compB s f.t.name <;> rw [c2] at h2
  all_goals
    repeat' first | refine .br ?_ | refine .seq ?_ | refine .rg ?_ | refine .rd ?_ | refine .block ?_ | refine .scope ?_ | refine .skip ?_ | refine .label ?_ | refine .exit ?_ | refine .ret ?_ | refine .ct ?_ | refine .cf ?_ | refine .cy ?_ | refine .cn ?_ | (refine .cond rfl ?_ ?_ <;> intro hc) | refine A.nil_seq ?_ | refine .nl ?_ | refine .dd ?_ | refine .ys ?_ | refine .no ?_ | (refine A.guard rfl ?_ ?_ <;> intro hc) | refine .lb ?_ | refine .ln ?_ | refine .ls ?_ | refine .pv ?_ | refine .ix ?_ | refine .pt ?_ | refine .pf ?_ | refine .bx ?_ | refine .al ?_ | refine .st ?_ | refine .ad ?_ | refine .sb ?_ | refine .mf ?_ | refine .cl ?_ | refine .cw ?_ | refine .ck ?_ | fail
    exact Fin.ret1 rfl (Weak.refl _)
theorem wTyped1 (s : Sch) (d : Dfn) (hs : s.size ≤ 68719476736) (hd : d ∈ s.defs) : PFn Tryz.prog 128 [d.enc, .rptr s.enc] (.bool (typed1 s d)) := by
  have hds := Sch.dfn hd
  have hl := d.lens
  have hz : sumSize Fld.size d.fields ≤ d.size := by unfold Dfn.size; omega
  have h1 := wEntries s d.params hs (by omega)
  have h2 := sContainsFFld d.fields 130 [.rptr s.enc] (fun f => (!leafB s f.t.name && !compB s f.t.name) || !entriesB s f.params) (by omega) (by simp [AV.closed, AV.closedL, Sch.closed]) (fun f hf => wTyped2 s f hs (by
    have h3 := sumSize_mem (size := Fld.size) hf
    have h4 := sumSize_length Par.size_pos f.params
    have h5 : sumSize Par.size f.params ≤ f.size := by unfold Fld.size; omega
    omega))
  refine AFn.plain rfl (by simp [AV.closed, AV.closedL, Dfn.closed, Sch.closed]) (AFn.enter [3] Tryz.func128 rfl rfl rfl rfl rfl (by decide) ?_)
  unfold typed1
  repeat' first | refine .br ?_ | refine .seq ?_ | refine .rg ?_ | refine .rd ?_ | refine .block ?_ | refine .scope ?_ | refine .skip ?_ | refine .label ?_ | refine .exit ?_ | refine .ret ?_ | refine .ct ?_ | refine .cf ?_ | refine .cy ?_ | refine .cn ?_ | (refine .cond rfl ?_ ?_ <;> intro hc) | refine A.nil_seq ?_ | refine .nl ?_ | refine .dd ?_ | refine .ys ?_ | refine .no ?_ | (refine A.guard rfl ?_ ?_ <;> intro hc) | refine .lb ?_ | refine .ln ?_ | refine .ls ?_ | refine .pv ?_ | refine .ix ?_ | refine .pt ?_ | refine .pf ?_ | refine .bx ?_ | refine .al ?_ | refine .st ?_ | refine .ad ?_ | refine .sb ?_ | refine .mf ?_ | refine .cl ?_ | refine .cw ?_ | refine .ck ?_ | fail
  all_goals
    refine Fin.ret1 rfl (Weak.eq (congrArg AV.bool ?_))
    simp_all
theorem wFaces3 (d : Dfn) (m : Str) (hd : d.faces.length ≤ 68719476736) : PFn Tryz.prog 133 [.str m, .rptr d.enc] (.bool (!decide (m ∈ d.faces))) := by
  have h := sContainsStr d.faces m (by omega)
  refine AFn.plain rfl (by simp [AV.closed, AV.closedL, Dfn.closed]) (AFn.enter [3] Tryz.func133 rfl rfl rfl rfl rfl (by decide) ?_)
  repeat' first | refine .br ?_ | refine .seq ?_ | refine .rg ?_ | refine .rd ?_ | refine .block ?_ | refine .scope ?_ | refine .skip ?_ | refine .label ?_ | refine .exit ?_ | refine .ret ?_ | refine .ct ?_ | refine .cf ?_ | refine .cy ?_ | refine .cn ?_ | (refine .cond rfl ?_ ?_ <;> intro hc) | refine A.nil_seq ?_ | refine .nl ?_ | refine .dd ?_ | refine .ys ?_ | refine .no ?_ | (refine A.guard rfl ?_ ?_ <;> intro hc) | refine .lb ?_ | refine .ln ?_ | refine .ls ?_ | refine .pv ?_ | refine .ix ?_ | refine .pt ?_ | refine .pf ?_ | refine .bx ?_ | refine .al ?_ | refine .st ?_ | refine .ad ?_ | refine .sb ?_ | refine .mf ?_ | refine .cl ?_ | refine .cw ?_ | refine .ck ?_ | fail
  exact Fin.ret1 rfl (Weak.refl _)
theorem wFaces2 (s : Sch) (d : Dfn) (n : Str) (hs : s.size ≤ 68719476736) (hd : d.faces.length ≤ 68719476736) : PFn Tryz.prog 132 [.str n, .rptr s.enc, .rptr d.enc] (.bool (face2 s d n)) := by
  have h1 := dFind s n hs
  have hz := findR_size (name := n) hs
  have h2 := sContainsFStr (findR s n).1.faces 133 [.rptr d.enc] (fun m => !decide (m ∈ d.faces)) (by omega) (by simp [AV.closed, AV.closedL, Dfn.closed]) (fun m _ => wFaces3 d m hd)
  refine AFn.plain rfl (by simp [AV.closed, AV.closedL, Dfn.closed, Sch.closed]) (AFn.enter [4] Tryz.func132 rfl rfl rfl rfl rfl (by decide) ?_)
  unfold face2
  generalize findR s n = r at h1 h2
  obtain ⟨x, ok⟩ := r
  simp only at h1 h2 ⊢
  cases ok
  · repeat' first | refine .br ?_ | refine .seq ?_ | refine .rg ?_ | refine .rd ?_ | refine .block ?_ | refine .scope ?_ | refine .skip ?_ | refine .label ?_ | refine .exit ?_ | refine .ret ?_ | refine .ct ?_ | refine .cf ?_ | refine .cy ?_ | refine .cn ?_ | (refine .cond rfl ?_ ?_ <;> intro hc) | refine A.nil_seq ?_ | refine .nl ?_ | refine .dd ?_ | refine .ys ?_ | refine .no ?_ | (refine A.guard rfl ?_ ?_ <;> intro hc) | refine .lb ?_ | refine .ln ?_ | refine .ls ?_ | refine .pv ?_ | refine .ix ?_ | refine .pt ?_ | refine .pf ?_ | refine .bx ?_ | refine .al ?_ | refine .st ?_ | refine .ad ?_ | refine .sb ?_ | refine .mf ?_ | refine .cl ?_ | refine .cw ?_ | refine .ck ?_ | fail
    exact Fin.ret1 rfl (Weak.refl _)
  cases c2 : (x.kind != 2)
  · cases c3 : (n == d.name)
    all_goals
      repeat' first | refine .br ?_ | refine .seq ?_ | refine .rg ?_ | refine .rd ?_ | refine .block ?_ | refine .scope ?_ | refine .skip ?_ | refine .label ?_ | refine .exit ?_ | refine .ret ?_ | refine .ct ?_ | refine .cf ?_ | refine .cy ?_ | refine .cn ?_ | (refine .cond rfl ?_ ?_ <;> intro hc) | refine A.nil_seq ?_ | refine .nl ?_ | refine .dd ?_ | refine .ys ?_ | refine .no ?_ | (refine A.guard rfl ?_ ?_ <;> intro hc) | refine .lb ?_ | refine .ln ?_ | refine .ls ?_ | refine .pv ?_ | refine .ix ?_ | refine .pt ?_ | refine .pf ?_ | refine .bx ?_ | refine .al ?_ | refine .st ?_ | refine .ad ?_ | refine .sb ?_ | refine .mf ?_ | refine .cl ?_ | refine .cw ?_ | refine .ck ?_ | fail
      exact Fin.ret1 rfl (Weak.refl _)
  · repeat' first | refine .br ?_ | refine .seq ?_ | refine .rg ?_ | refine .rd ?_ | refine .block ?_ | refine .scope ?_ | refine .skip ?_ | refine .label ?_ | refine .exit ?_ | refine .ret ?_ | refine .ct ?_ | refine .cf ?_ | refine .cy ?_ | refine .cn ?_ | (refine .cond rfl ?_ ?_ <;> intro hc) | refine A.nil_seq ?_ | refine .nl ?_ | refine .dd ?_ | refine .ys ?_ | refine .no ?_ | (refine A.guard rfl ?_ ?_ <;> intro hc) | refine .lb ?_ | refine .ln ?_ | refine .ls ?_ | refine .pv ?_ | refine .ix ?_ | refine .pt ?_ | refine .pf ?_ | refine .bx ?_ | refine .al ?_ | refine .st ?_ | refine .ad ?_ | refine .sb ?_ | refine .mf ?_ | refine .cl ?_ | refine .cw ?_ | refine .ck ?_ | fail
    exact Fin.ret1 rfl (Weak.refl _)
theorem wFaces1 (s : Sch) (d : Dfn) (hs : s.size ≤ 68719476736) (hd : d ∈ s.defs) : PFn Tryz.prog 131 [d.enc, .rptr s.enc] (.bool (faces1 s d)) := by
  have hds := Sch.dfn hd
  have hl := d.lens
  have h := sContainsFStr d.faces 132 [.rptr s.enc, .rptr d.enc] (face2 s d) (by omega) (by simp [AV.closed, AV.closedL, Dfn.closed, Sch.closed]) (fun n _ => wFaces2 s d n hs (by omega))
  refine AFn.plain rfl (by simp [AV.closed, AV.closedL, Dfn.closed, Sch.closed]) (AFn.enter [3] Tryz.func131 rfl rfl rfl rfl rfl (by decide) ?_)
  unfold faces1
  repeat' first | refine .br ?_ | refine .seq ?_ | refine .rg ?_ | refine .rd ?_ | refine .block ?_ | refine .scope ?_ | refine .skip ?_ | refine .label ?_ | refine .exit ?_ | refine .ret ?_ | refine .ct ?_ | refine .cf ?_ | refine .cy ?_ | refine .cn ?_ | (refine .cond rfl ?_ ?_ <;> intro hc) | refine A.nil_seq ?_ | refine .nl ?_ | refine .dd ?_ | refine .ys ?_ | refine .no ?_ | (refine A.guard rfl ?_ ?_ <;> intro hc) | refine .lb ?_ | refine .ln ?_ | refine .ls ?_ | refine .pv ?_ | refine .ix ?_ | refine .pt ?_ | refine .pf ?_ | refine .bx ?_ | refine .al ?_ | refine .st ?_ | refine .ad ?_ | refine .sb ?_ | refine .mf ?_ | refine .cl ?_ | refine .cw ?_ | refine .ck ?_ | fail
  exact Fin.ret1 rfl (Weak.refl _)
theorem wR_typed (s : Sch) (hs : s.size ≤ 68719476736) : PFn Tryz.prog 77 [s.enc] (.bool (typedB s)) := by
  have h := wEvery s 128 [.rptr s.enc] (typed1 s) hs (by simp [AV.closed, AV.closedL, Sch.closed]) (fun d hd => wTyped1 s d hs hd)
  refine AFn.plain rfl (by simp [AV.closedL, Sch.closed]) (AFn.enter [2] Tryz.func77 rfl rfl rfl rfl rfl (by decide) ?_)
  unfold typedB
  repeat' first | refine .br ?_ | refine .seq ?_ | refine .rg ?_ | refine .rd ?_ | refine .block ?_ | refine .scope ?_ | refine .skip ?_ | refine .label ?_ | refine .exit ?_ | refine .ret ?_ | refine .ct ?_ | refine .cf ?_ | refine .cy ?_ | refine .cn ?_ | (refine .cond rfl ?_ ?_ <;> intro hc) | refine A.nil_seq ?_ | refine .nl ?_ | refine .dd ?_ | refine .ys ?_ | refine .no ?_ | (refine A.guard rfl ?_ ?_ <;> intro hc) | refine .lb ?_ | refine .ln ?_ | refine .ls ?_ | refine .pv ?_ | refine .ix ?_ | refine .pt ?_ | refine .pf ?_ | refine .bx ?_ | refine .al ?_ | refine .st ?_ | refine .ad ?_ | refine .sb ?_ | refine .mf ?_ | refine .cl ?_ | refine .cw ?_ | refine .ck ?_ | fail
  exact Fin.ret1 rfl (Weak.refl _)
theorem wR_faces (s : Sch) (hs : s.size ≤ 68719476736) : PFn Tryz.prog 78 [s.enc] (.bool (facesB s)) := by
  have h := wEvery s 131 [.rptr s.enc] (faces1 s) hs (by simp [AV.closed, AV.closedL, Sch.closed]) (fun d hd => wFaces1 s d hs hd)
  refine AFn.plain rfl (by simp [AV.closedL, Sch.closed]) (AFn.enter [2] Tryz.func78 rfl rfl rfl rfl rfl (by decide) ?_)
  unfold facesB
  repeat' first | refine .br ?_ | refine .seq ?_ | refine .rg ?_ | refine .rd ?_ | refine .block ?_ | refine .scope ?_ | refine .skip ?_ | refine .label ?_ | refine .exit ?_ | refine .ret ?_ | refine .ct ?_ | refine .cf ?_ | refine .cy ?_ | refine .cn ?_ | (refine .cond rfl ?_ ?_ <;> intro hc) | refine A.nil_seq ?_ | refine .nl ?_ | refine .dd ?_ | refine .ys ?_ | refine .no ?_ | (refine A.guard rfl ?_ ?_ <;> intro hc) | refine .lb ?_ | refine .ln ?_ | refine .ls ?_ | refine .pv ?_ | refine .ix ?_ | refine .pt ?_ | refine .pf ?_ | refine .bx ?_ | refine .al ?_ | refine .st ?_ | refine .ad ?_ | refine .sb ?_ | refine .mf ?_ | refine .cl ?_ | refine .cw ?_ | refine .ck ?_ | fail
  exact Fin.ret1 rfl (Weak.refl _)
end Go.Proofs.YtegakkonlhmeaaaGreatDoor
