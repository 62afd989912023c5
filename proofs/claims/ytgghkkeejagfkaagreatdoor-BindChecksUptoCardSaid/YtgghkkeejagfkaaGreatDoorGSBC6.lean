/-
  Contracts and plain facts for a law, joined.
-/
import Derived.Test.YtgghkkeejagfkaaGreatDoorGSBC1
import Derived.Test.YtgghkkeejagfkaaGreatDoorGSBC4
import Derived.Test.YtgghkkeejagfkaaGreatDoorGSBC3
import Derived.Test.YtgghkkeejagfkaaGreatDoorGSBC5
set_option maxRecDepth 100000
set_option maxHeartbeats 16000000
set_option linter.unusedVariables false
set_option linter.unusedSimpArgs false
set_option linter.unusedSectionVars false
namespace Go.Proofs.YtgghkkeejagfkaaGreatDoor
open Go Go.Av
attribute [local irreducible] HCode AOps PFn AFn Av.Step TStep
def tiFn : TI := ⟨.func, 1, 8, false, .nilfn, [], 0⟩
theorem tokF1 : TOk Tryz.prog 67 tiFn := tok_mk .nilFunc (by kernel_rfl) Tryz.underlying67 rfl rfl rfl rfl rfl (by kernel_rfl) rfl (by kernel_rfl)
theorem tokF2 : TOk Tryz.prog 153 tiFn := tok_mk .nilFunc (by kernel_rfl) Tryz.underlying153 rfl rfl rfl rfl rfl (by kernel_rfl) rfl (by kernel_rfl)
def table2 : List (Nat × TI) := (67, tiFn) :: (153, tiFn) :: table
instance layF : Lay Tryz.prog := ⟨table2, ⟨tokF1, tokF2, table_ok⟩, Tryz.checked.mixed⟩
theorem wHas0 (s : Str) (hs : s.length ≤ 9223372036854775807) : PFn Tryz.prog 224 [.str s, .str [95, 95]] (.bool (own2 s)) := by
  
  refine AFn.plain rfl rfl (AFn.enter [4] Tryz.func224 rfl rfl rfl rfl rfl (by decide) ?_)
  unfold own2 at *
  by_cases h : 2 ≤ s.length
  · have d1 : decide ((([95, 95] : Str).length : Int) ≤ (s.length : Int)) = true := decide_eq_true (by simp only [List.length_cons, List.length_nil]; omega)
    repeat' first | refine .s1 ?_ | (refine .cond rfl ?_ ?_ <;> intro hc) | (refine A.guard rfl ?_ ?_ <;> intro hc) | refine A.slice_s 0 2 rfl rfl rfl rfl rfl rfl rfl (Nat.zero_le _) h (List.drop_zero ..) ?_ | fail
    exact Fin.ret1 rfl (Weak.refl _)
  · have d1 : decide ((([95, 95] : Str).length : Int) ≤ (s.length : Int)) = false := decide_eq_false (by simp only [List.length_cons, List.length_nil]; omega)
    refine .go ?_
    refine Fin.ret1 rfl (Weak.eq (congrArg AV.bool ?_))
    first
      | rfl
      | (rw [eq_comm, beq_eq_false_iff_ne]
         intro e
         have := congrArg List.length e
         rw [List.length_take] at this
         simp only [List.length_cons, List.length_nil] at this
         omega)
theorem wHasPrefix (s : Str) (hs : s.length ≤ 9223372036854775807) : PFn Tryz.prog 175 [.str s, .str [95, 95]] (.bool (own2 s)) := by
  have h0 := wHas0 s hs
  refine AFn.plain rfl rfl (AFn.enter [4] Tryz.func175 rfl rfl rfl rfl rfl (by decide) ?_)
  unfold own2 at *
  by_cases h : 2 ≤ s.length
  · have d1 : decide ((([95, 95] : Str).length : Int) ≤ (s.length : Int)) = true := decide_eq_true (by simp only [List.length_cons, List.length_nil]; omega)
    repeat' first | refine .s1 ?_ | (refine .cond rfl ?_ ?_ <;> intro hc) | (refine A.guard rfl ?_ ?_ <;> intro hc) | refine A.slice_s 0 2 rfl rfl rfl rfl rfl rfl rfl (Nat.zero_le _) h (List.drop_zero ..) ?_ | fail
    exact Fin.ret1 rfl (Weak.refl _)
  · have d1 : decide ((([95, 95] : Str).length : Int) ≤ (s.length : Int)) = false := decide_eq_false (by simp only [List.length_cons, List.length_nil]; omega)
    refine .go ?_
    refine Fin.ret1 rfl (Weak.eq (congrArg AV.bool ?_))
    first
      | rfl
      | (rw [eq_comm, beq_eq_false_iff_ne]
         intro e
         have := congrArg List.length e
         rw [List.length_take] at this
         simp only [List.length_cons, List.length_nil] at this
         omega)
theorem wForeign1 (s : Str) (hs : s.length ≤ 9223372036854775807) : PFn Tryz.prog 174 [.str s] (.bool (own2 s)) := by
  have h := wHasPrefix s hs
  refine AFn.plain rfl rfl (AFn.enter [2] Tryz.func174 rfl rfl rfl rfl rfl (by decide) ?_)
  refine .go ?_
  exact Fin.ret1 rfl (Weak.refl _)
theorem wForeign (l : List Str) (hl : strsSize l ≤ 68719476736) : PFn Tryz.prog 89 [.slice (l.map AV.str) .no] (.bool (foreignB l)) := by
  have hlen : l.length ≤ 68719476736 := by have := sumSize_length (size := fun s : Str => s.length + 1) (fun _ => by omega) l; unfold strsSize at hl; omega
  have h := sContainsFStr l 174 [] own2 (by omega) rfl (fun x hx => wForeign1 x (by have := sumSize_mem (size := fun s : Str => s.length + 1) hx; unfold strsSize at hl; omega))
  refine AFn.plain rfl (by simp [AV.closed, AV.closedL, str_closedL]) (AFn.enter [2] Tryz.func89 rfl rfl rfl rfl rfl (by decide) ?_)
  refine .go ?_
  exact Fin.ret1 rfl (Weak.refl _)
theorem once_take {l : List Str} {k : Nat} (h : k < l.length) : (l.take (k + 1)).Nodup ↔ (l.take k).Nodup ∧ l[k] ∉ l.take k := by
  rw [List.take_succ_eq_append_getElem h, List.nodup_append]
  constructor
  · rintro ⟨h1, _, h3⟩
    exact ⟨h1, fun hm => h3 _ hm _ (List.mem_singleton.2 rfl) rfl⟩
  · rintro ⟨h1, h2⟩
    refine ⟨h1, by simp, fun a ha b hb => ?_⟩
    rw [List.mem_singleton.1 hb]
    rintro rfl
    exact h2 ha
theorem wOnce (l : List Str) (hl : l.length ≤ 68719476736) : PFn Tryz.prog 88 [.slice (l.map AV.str) .no] (.bool (onceB l)) := by
  refine AFn.plain rfl (by simp [AV.closed, AV.closedL, str_closedL]) (AFn.enter [2] Tryz.func88 rfl rfl rfl rfl rfl (by decide) ?_)
  unfold onceB
  refine .go ?_
  refine HCode.forK l.length (fun k => [(7, .int .i64 k), (6, .int .i64 l.length), (5, .slice (l.map AV.str) .no), (0, .slice (l.map AV.str) .no)]) (fun _ => ⟨[], []⟩) (fun k => (l.take k).Nodup) ⟨rfl, rfl, rfl, rfl, trivial⟩ rfl (by simp) fun k hk hp => ?_
  by_cases h1 : k < l.length
  · have d1 : decide ((k : Int) < (l.length : Int)) = true := by simp [h1]
    have x1 := map_get' (f := AV.str) h1
    have ht := once_take h1
    have hct := sContainsStr (l.take k) l[k] (by rw [List.length_take]; omega)
    rw [List.map_take] at hct
    have hkl : k ≤ (l.map AV.str).length := by rw [List.length_map]; omega
    by_cases c : l[k] ∈ l.take k
    · rw [decide_eq_true c] at hct
      have hno : ¬ l.Nodup := fun hn => by
        have := (hn.sublist (List.take_sublist (k + 1) l))
        exact (ht.1 this).2 c
      rw [decide_eq_false hno]
      repeat' first | refine .s1 ?_ | (refine .cond rfl ?_ ?_ <;> intro hc) | (refine A.guard rfl ?_ ?_ <;> intro hc) | refine A.slice 0 k rfl rfl rfl rfl rfl rfl rfl rfl (Nat.zero_le _) hkl (.inl rfl) ?_ | fail
      exact Fin.ret1 rfl (Weak.refl _)
    · rw [decide_eq_false c] at hct
      repeat' first | refine .s1 ?_ | (refine .cond rfl ?_ ?_ <;> intro hc) | (refine A.guard rfl ?_ ?_ <;> intro hc) | refine A.slice 0 k rfl rfl rfl rfl rfl rfl rfl rfl (Nat.zero_le _) hkl (.inl rfl) ?_ | fail
      exact ⟨h1, ⟨rfl, rfl, rfl, rfl, trivial⟩, by simp [belowS, AV.low], rfl, rfl, ht.2 ⟨hp, c⟩⟩
  · have d1 : decide ((k : Int) < (l.length : Int)) = false := by simp; omega
    obtain rfl : k = l.length := by omega
    rw [List.take_length] at hp
    rw [decide_eq_true hp]
    refine .go ?_
    exact Fin.ret1 rfl (Weak.refl _)
theorem wNameDfn (x : Dfn) : PFn Tryz.prog 86 [x.enc] (.str x.name) := by
  refine AFn.plain rfl (by simp [AV.closedL, Dfn.closed]) (AFn.enter [2] Tryz.func86 rfl rfl rfl rfl rfl (by decide) ?_)
  refine .gob ?_
  exact Fin.ret1 rfl (Weak.refl _)
theorem wNamesDfn (l : List Dfn) (hl : l.length ≤ 68719476736) : PFn Tryz.prog 85 [.slice (l.map Dfn.enc) .no, .fn (.func 86) [] []] (.slice ((l.map Dfn.name).map AV.str) .no) := by
  refine AFn.plain (str_closedL _) (by simp [AV.closed, AV.closedL, Dfn.closedL]) (AFn.enter [4] Tryz.func85 rfl rfl rfl rfl rfl (by decide) ?_)
  refine .go ?_
  refine HCode.adopt 5 false 1 rfl rfl rfl rfl rfl rfl ?_
  refine HCode.forK l.length (fun k => [(10, .int .i64 k), (9, .int .i64 l.length), (8, .slice (l.map Dfn.enc) .no), (1, .fn (.func 86) [] []), (5, .slice (((l.take k).map Dfn.name).map AV.str) (.own 0 1))])
    (fun k => ⟨[], [.len k]⟩) (fun _ => True) ⟨rfl, rfl, rfl, rfl, rfl, trivial⟩ rfl trivial fun k hk _ => ?_
  have htl : (((l.take k).map Dfn.name).map AV.str).length = k := by simp; omega
  by_cases h1 : k < l.length
  · have d1 : decide ((k : Int) < (l.length : Int)) = true := by simp [h1]
    have x1 := map_get' (f := Dfn.enc) h1
    have hn := wNameDfn l[k]
    repeat' first | refine .s1 ?_ | (refine .cond rfl ?_ ?_ <;> intro hc) | (refine A.guard rfl ?_ ?_ <;> intro hc) | refine A.append (n := k) rfl rfl rfl rfl rfl rfl rfl rfl htl rfl (by dsimp only [List.length_cons, List.length_nil]; omega) (by dsimp only [List.length_cons, List.length_nil]; omega) rfl ?_ | fail
    exact ⟨h1, ⟨rfl, rfl, rfl, rfl, by rw [List.take_succ_eq_append_getElem h1, List.map_append, List.map_append]; rfl, trivial⟩, by simp [-List.map_take, -List.map_map, belowS, AV.low, AV.lowL], by simp [belowB, belowT, Ob.low, Tok.low], rfl, trivial⟩
  · have d1 : decide ((k : Int) < (l.length : Int)) = false := by simp; omega
    obtain rfl : k = l.length := by omega
    rw [List.take_length]
    refine .go ?_
    exact Fin.ret1 rfl (Weak.no (WeakL.refl _))
theorem wNameFld (x : Fld) : PFn Tryz.prog 97 [x.enc] (.str x.name) := by
  refine AFn.plain rfl (by simp [AV.closedL, Fld.closed]) (AFn.enter [2] Tryz.func97 rfl rfl rfl rfl rfl (by decide) ?_)
  refine .gob ?_
  exact Fin.ret1 rfl (Weak.refl _)
theorem wNamesFld (l : List Fld) (hl : l.length ≤ 68719476736) : PFn Tryz.prog 96 [.slice (l.map Fld.enc) .no, .fn (.func 97) [] []] (.slice ((l.map Fld.name).map AV.str) .no) := by
  refine AFn.plain (str_closedL _) (by simp [AV.closed, AV.closedL, Fld.closedL]) (AFn.enter [4] Tryz.func96 rfl rfl rfl rfl rfl (by decide) ?_)
  refine .go ?_
  refine HCode.adopt 5 false 1 rfl rfl rfl rfl rfl rfl ?_
  refine HCode.forK l.length (fun k => [(10, .int .i64 k), (9, .int .i64 l.length), (8, .slice (l.map Fld.enc) .no), (1, .fn (.func 97) [] []), (5, .slice (((l.take k).map Fld.name).map AV.str) (.own 0 1))])
    (fun k => ⟨[], [.len k]⟩) (fun _ => True) ⟨rfl, rfl, rfl, rfl, rfl, trivial⟩ rfl trivial fun k hk _ => ?_
  have htl : (((l.take k).map Fld.name).map AV.str).length = k := by simp; omega
  by_cases h1 : k < l.length
  · have d1 : decide ((k : Int) < (l.length : Int)) = true := by simp [h1]
    have x1 := map_get' (f := Fld.enc) h1
    have hn := wNameFld l[k]
    repeat' first | refine .s1 ?_ | (refine .cond rfl ?_ ?_ <;> intro hc) | (refine A.guard rfl ?_ ?_ <;> intro hc) | refine A.append (n := k) rfl rfl rfl rfl rfl rfl rfl rfl htl rfl (by dsimp only [List.length_cons, List.length_nil]; omega) (by dsimp only [List.length_cons, List.length_nil]; omega) rfl ?_ | fail
    exact ⟨h1, ⟨rfl, rfl, rfl, rfl, by rw [List.take_succ_eq_append_getElem h1, List.map_append, List.map_append]; rfl, trivial⟩, by simp [-List.map_take, -List.map_map, belowS, AV.low, AV.lowL], by simp [belowB, belowT, Ob.low, Tok.low], rfl, trivial⟩
  · have d1 : decide ((k : Int) < (l.length : Int)) = false := by simp; omega
    obtain rfl : k = l.length := by omega
    rw [List.take_length]
    refine .go ?_
    exact Fin.ret1 rfl (Weak.no (WeakL.refl _))
theorem wNamePar (x : Par) : PFn Tryz.prog 99 [x.enc] (.str x.name) := by
  refine AFn.plain rfl (by simp [AV.closedL, Par.closed]) (AFn.enter [2] Tryz.func99 rfl rfl rfl rfl rfl (by decide) ?_)
  refine .gob ?_
  exact Fin.ret1 rfl (Weak.refl _)
theorem wNamesPar (l : List Par) (hl : l.length ≤ 68719476736) : PFn Tryz.prog 98 [.slice (l.map Par.enc) .no, .fn (.func 99) [] []] (.slice ((l.map Par.name).map AV.str) .no) := by
  refine AFn.plain (str_closedL _) (by simp [AV.closed, AV.closedL, Par.closedL]) (AFn.enter [4] Tryz.func98 rfl rfl rfl rfl rfl (by decide) ?_)
  refine .go ?_
  refine HCode.adopt 5 false 1 rfl rfl rfl rfl rfl rfl ?_
  refine HCode.forK l.length (fun k => [(10, .int .i64 k), (9, .int .i64 l.length), (8, .slice (l.map Par.enc) .no), (1, .fn (.func 99) [] []), (5, .slice (((l.take k).map Par.name).map AV.str) (.own 0 1))])
    (fun k => ⟨[], [.len k]⟩) (fun _ => True) ⟨rfl, rfl, rfl, rfl, rfl, trivial⟩ rfl trivial fun k hk _ => ?_
  have htl : (((l.take k).map Par.name).map AV.str).length = k := by simp; omega
  by_cases h1 : k < l.length
  · have d1 : decide ((k : Int) < (l.length : Int)) = true := by simp [h1]
    have x1 := map_get' (f := Par.enc) h1
    have hn := wNamePar l[k]
    repeat' first | refine .s1 ?_ | (refine .cond rfl ?_ ?_ <;> intro hc) | (refine A.guard rfl ?_ ?_ <;> intro hc) | refine A.append (n := k) rfl rfl rfl rfl rfl rfl rfl rfl htl rfl (by dsimp only [List.length_cons, List.length_nil]; omega) (by dsimp only [List.length_cons, List.length_nil]; omega) rfl ?_ | fail
    exact ⟨h1, ⟨rfl, rfl, rfl, rfl, by rw [List.take_succ_eq_append_getElem h1, List.map_append, List.map_append]; rfl, trivial⟩, by simp [-List.map_take, -List.map_map, belowS, AV.low, AV.lowL], by simp [belowB, belowT, Ob.low, Tok.low], rfl, trivial⟩
  · have d1 : decide ((k : Int) < (l.length : Int)) = false := by simp; omega
    obtain rfl : k = l.length := by omega
    rw [List.take_length]
    refine .go ?_
    exact Fin.ret1 rfl (Weak.no (WeakL.refl _))
theorem wEvery1 (F : FuncId) (cs : List AV) (d : Dfn) (b : Bool) (hcs : AV.closedL cs = true) (hF : PFn Tryz.prog F (d.enc :: cs) (.bool b)) : PFn Tryz.prog 178 [d.enc, .rptr (.fn (.func F) [] cs)] (.bool (!b)) := by
  refine AFn.plain rfl (by simp [AV.closed, AV.closedL, Dfn.closed, hcs]) (AFn.enter [3] Tryz.func178 rfl rfl rfl rfl rfl (by decide) ?_)
  refine .gob ?_
  exact Fin.ret1 rfl (Weak.refl _)
theorem wEvery (s : Sch) (F : FuncId) (cs : List AV) (f : Dfn → Bool) (hs : s.size ≤ 68719476736) (hcs : AV.closedL cs = true) (hF : ∀ d ∈ s.defs, PFn Tryz.prog F (d.enc :: cs) (.bool (f d))) : PFn Tryz.prog 94 [s.enc, .fn (.func F) [] cs] (.bool (everyB s f)) := by
  have hl := s.len
  have h := sContainsFDfn s.defs 178 [.rptr (.fn (.func F) [] cs)] (fun d => !f d) (by omega) (by simp [AV.closed, AV.closedL, hcs]) (fun d hd => wEvery1 F cs d (f d) hcs (hF d hd))
  refine AFn.plain rfl (by simp [AV.closed, AV.closedL, Sch.closed, hcs]) (AFn.enter [4] Tryz.func94 rfl rfl rfl rfl rfl (by decide) ?_)
  unfold everyB
  refine .gob ?_
  exact Fin.ret1 rfl (Weak.refl _)
theorem wRoots (s : Sch) (hs : s.size ≤ 68719476736) : PFn Tryz.prog 41 [s.enc] (.bool (rootsB s)) := by
  have h1 := dKind s s.query [1] hs (by decide)
  have h2 := dKind s s.mutation [1] hs (by decide)
  refine AFn.plain rfl (by simp [AV.closedL, Sch.closed]) (AFn.enter [2] Tryz.func41 rfl rfl rfl rfl rfl (by decide) ?_)
  unfold rootsB
  cases c1 : kindB s s.query [1] <;> rw [c1] at h1
  · repeat' first | refine .br ?_ | refine .s1 ?_ | (refine .cond rfl ?_ ?_ <;> intro hc) | (refine A.guard rfl ?_ ?_ <;> intro hc) | refine A.call rfl h1 (WeakL.cons (Weak.refl _) (WeakL.cons (Weak.refl _) (WeakL.cons (Weak.no (WeakL.refl _)) (WeakL.refl _)))) ?_ | refine A.call rfl h2 (WeakL.cons (Weak.refl _) (WeakL.cons (Weak.refl _) (WeakL.cons (Weak.no (WeakL.refl _)) (WeakL.refl _)))) ?_ | fail
    exact Fin.ret1 rfl (Weak.refl _)
  cases c2 : (s.mutation == [])
  · cases c3 : (s.mutation != s.query)
    all_goals
      repeat' first | refine .br ?_ | refine .s1 ?_ | (refine .cond rfl ?_ ?_ <;> intro hc) | (refine A.guard rfl ?_ ?_ <;> intro hc) | refine A.call rfl h1 (WeakL.cons (Weak.refl _) (WeakL.cons (Weak.refl _) (WeakL.cons (Weak.no (WeakL.refl _)) (WeakL.refl _)))) ?_ | refine A.call rfl h2 (WeakL.cons (Weak.refl _) (WeakL.cons (Weak.refl _) (WeakL.cons (Weak.no (WeakL.refl _)) (WeakL.refl _)))) ?_ | fail
      exact Fin.ret1 rfl (Weak.refl _)
  · repeat' first | refine .br ?_ | refine .s1 ?_ | (refine .cond rfl ?_ ?_ <;> intro hc) | (refine A.guard rfl ?_ ?_ <;> intro hc) | refine A.call rfl h1 (WeakL.cons (Weak.refl _) (WeakL.cons (Weak.refl _) (WeakL.cons (Weak.no (WeakL.refl _)) (WeakL.refl _)))) ?_ | refine A.call rfl h2 (WeakL.cons (Weak.refl _) (WeakL.cons (Weak.refl _) (WeakL.cons (Weak.no (WeakL.refl _)) (WeakL.refl _)))) ?_ | fail
    exact Fin.ret1 rfl (Weak.refl _)
theorem wGoodNames (l : List Str) (hl : strsSize l ≤ 68719476736) : PFn Tryz.prog 93 [.slice (l.map AV.str) .no] (.bool (goodNames l)) := by
  have hlen : l.length ≤ 68719476736 := by have := sumSize_length (size := fun s : Str => s.length + 1) (fun _ => by omega) l; unfold strsSize at hl; omega
  have h1 := wOnce l hlen
  have h2 := wForeign l hl
  refine AFn.plain rfl (by simp [AV.closed, AV.closedL, str_closedL]) (AFn.enter [2] Tryz.func93 rfl rfl rfl rfl rfl (by decide) ?_)
  unfold goodNames
  repeat' first | refine .s1 ?_ | (refine .cond rfl ?_ ?_ <;> intro hc) | (refine A.guard rfl ?_ ?_ <;> intro hc) | fail
  all_goals
    refine Fin.ret1 rfl (Weak.eq (congrArg AV.bool ?_))
    simp_all
theorem names_size {α : Type} {n : α → Str} {size : α → Nat} (h : ∀ x, (n x).length + 1 ≤ size x) (l : List α) : strsSize (l.map n) ≤ sumSize size l + 1 := by
  unfold strsSize
  have : sumSize (fun s : Str => s.length + 1) (l.map n) ≤ sumSize size l := by
    induction l with
    | nil => simp [sumSize]
    | cons x l ih => simp only [List.map_cons, sumSize]; have := h x; omega
  omega
theorem Fld.name_size (f : Fld) : f.name.length + 1 ≤ f.size := by unfold Fld.size; omega
theorem Par.name_size (f : Par) : f.name.length + 1 ≤ f.size := by unfold Par.size; omega
theorem Dfn.name_size (f : Dfn) : f.name.length + 1 ≤ f.size := by unfold Dfn.size; omega
theorem wSingle1 (f : Fld) (hf : f.size ≤ 1048640) : PFn Tryz.prog 100 [f.enc, .rptr (.fn (.func 93) [] [])] (.bool (!goodNames (f.params.map Par.name))) := by
  have hp : sumSize Par.size f.params ≤ f.size := by unfold Fld.size; omega
  have hl := sumSize_length Par.size_pos f.params
  have h1 := wNamesPar f.params (by omega)
  have h2 := wGoodNames (f.params.map Par.name) (by have := names_size Par.name_size f.params; omega)
  refine AFn.plain rfl (by simp [AV.closed, AV.closedL, Fld.closed]) (AFn.enter [3] Tryz.func100 rfl rfl rfl rfl rfl (by decide) ?_)
  refine .gob ?_
  exact Fin.ret1 rfl (Weak.refl _)
theorem wSingle2 (d : Dfn) (hd : d.size ≤ 1048640) : PFn Tryz.prog 95 [d.enc, .rptr (.fn (.func 93) [] [])] (.bool (sole1 d)) := by
  have hz : sumSize Fld.size d.fields ≤ d.size ∧ sumSize Par.size d.params ≤ d.size := by unfold Dfn.size; omega
  have hl := d.lens
  have h1 := wNamesFld d.fields (by omega)
  have h2 := wGoodNames (d.fields.map Fld.name) (by have := names_size Fld.name_size d.fields; omega)
  have h3 := wNamesPar d.params (by omega)
  have h4 := wGoodNames (d.params.map Par.name) (by have := names_size Par.name_size d.params; omega)
  have h5 := wOnce d.parts (by omega)
  have h6 := wOnce d.faces (by omega)
  have h7 := sContainsFFld d.fields 100 [.rptr (.fn (.func 93) [] [])] (fun f => !goodNames (f.params.map Par.name)) (by omega) rfl (fun f hf => wSingle1 f (by have := sumSize_mem (size := Fld.size) hf; omega))
  refine AFn.plain rfl (by simp [AV.closed, AV.closedL, Dfn.closed]) (AFn.enter [3] Tryz.func95 rfl rfl rfl rfl rfl (by decide) ?_)
  unfold sole1
  cases c1 : goodNames (d.fields.map Fld.name) <;> rw [c1] at h2
  · refine .gob ?_
    exact Fin.ret1 rfl (Weak.refl _)
  cases c2 : goodNames (d.params.map Par.name) <;> rw [c2] at h4
  · refine .gob ?_
    exact Fin.ret1 rfl (Weak.refl _)
  cases c3 : onceB d.parts <;> rw [c3] at h5
  · refine .gob ?_
    exact Fin.ret1 rfl (Weak.refl _)
  cases c4 : onceB d.faces <;> rw [c4] at h6
  · refine .gob ?_
    exact Fin.ret1 rfl (Weak.refl _)
  refine .gob ?_
  exact Fin.ret1 rfl (Weak.refl _)
theorem wSingle (s : Sch) (hs : s.size ≤ 1048640) : PFn Tryz.prog 42 [s.enc] (.bool (soleB s)) := by
  have h := wEvery s 95 [.rptr (.fn (.func 93) [] [])] sole1 (by omega) rfl (fun d hd => wSingle2 d (by have := Sch.dfn hd; omega))
  refine AFn.plain rfl (by simp [AV.closedL, Sch.closed]) (AFn.enter [2] Tryz.func42 rfl rfl rfl rfl rfl (by decide) ?_)
  unfold soleB
  repeat' first | refine .br ?_ | refine A.allocv (d := 3) rfl rfl rfl rfl rfl ?_ | refine HCode.turn 3 rfl (Turn.freezeP rfl rfl rfl rfl) ?_ | refine .s1 ?_ | (refine .cond rfl ?_ ?_ <;> intro hc) | (refine A.guard rfl ?_ ?_ <;> intro hc) | refine A.vstore (agg := false) rfl rfl rfl rfl rfl rfl rfl rfl rfl rfl rfl ?_ | fail
  exact Fin.ret1 rfl (Weak.refl _)
theorem wEntries1 (s : Sch) (p : Par) (hs : s.size ≤ 68719476736) : PFn Tryz.prog 179 [p.enc, .rptr s.enc] (.bool (!entryB s p.t.name)) := by
  have h := dEntry s p.t.name hs
  refine AFn.plain rfl (by simp [AV.closed, AV.closedL, Par.closed, Sch.closed]) (AFn.enter [3] Tryz.func179 rfl rfl rfl rfl rfl (by decide) ?_)
  refine .gob ?_
  exact Fin.ret1 rfl (Weak.refl _)
theorem wEntries (s : Sch) (l : List Par) (hs : s.size ≤ 68719476736) (hl : l.length ≤ 68719476736) : PFn Tryz.prog 102 [s.enc, .slice (l.map Par.enc) .no] (.bool (entriesB s l)) := by
  have h := sContainsFPar l 179 [.rptr s.enc] (fun p => !entryB s p.t.name) (by omega) (by simp [AV.closed, AV.closedL, Sch.closed]) (fun p _ => wEntries1 s p hs)
  refine AFn.plain rfl (by simp [AV.closed, AV.closedL, Par.closedL, Sch.closed]) (AFn.enter [4] Tryz.func102 rfl rfl rfl rfl rfl (by decide) ?_)
  unfold entriesB
  refine .gob ?_
  exact Fin.ret1 rfl (Weak.refl _)
theorem wTyped2 (s : Sch) (f : Fld) (hs : s.size ≤ 68719476736) (hl : f.params.length ≤ 68719476736) : PFn Tryz.prog 103 [f.enc, .rptr s.enc] (.bool ((!leafB s f.t.name && !compB s f.t.name) || !entriesB s f.params)) := by
  have h1 := dLeaf s f.t.name hs
  have h2 := dComposite s f.t.name hs
  have h3 := wEntries s f.params hs hl
  refine AFn.plain rfl (by simp [AV.closed, AV.closedL, Fld.closed, Sch.closed]) (AFn.enter [3] Tryz.func103 rfl rfl rfl rfl rfl (by decide) ?_)
  cases c1 : leafB s f.t.name <;> rw [c1] at h1 <;> cases c2 : compB s f.t.name <;> rw [c2] at h2
  all_goals
    refine .gob ?_
    exact Fin.ret1 rfl (Weak.refl _)
theorem wTyped1 (s : Sch) (d : Dfn) (hs : s.size ≤ 68719476736) (hd : d ∈ s.defs) : PFn Tryz.prog 101 [d.enc, .rptr s.enc] (.bool (typed1 s d)) := by
  have hds := Sch.dfn hd
  have hl := d.lens
  have hz : sumSize Fld.size d.fields ≤ d.size := by unfold Dfn.size; omega
  have h1 := wEntries s d.params hs (by omega)
  have h2 := sContainsFFld d.fields 103 [.rptr s.enc] (fun f => (!leafB s f.t.name && !compB s f.t.name) || !entriesB s f.params) (by omega) (by simp [AV.closed, AV.closedL, Sch.closed]) (fun f hf => wTyped2 s f hs (by
    have h3 := sumSize_mem (size := Fld.size) hf
    have h4 := sumSize_length Par.size_pos f.params
    have h5 : sumSize Par.size f.params ≤ f.size := by unfold Fld.size; omega
    omega))
  refine AFn.plain rfl (by simp [AV.closed, AV.closedL, Dfn.closed, Sch.closed]) (AFn.enter [3] Tryz.func101 rfl rfl rfl rfl rfl (by decide) ?_)
  unfold typed1
  repeat' first | refine .br ?_ | refine .s1 ?_ | (refine .cond rfl ?_ ?_ <;> intro hc) | (refine A.guard rfl ?_ ?_ <;> intro hc) | fail
  all_goals
    refine Fin.ret1 rfl (Weak.eq (congrArg AV.bool ?_))
    simp_all
theorem wFaces3 (d : Dfn) (m : Str) (hd : d.faces.length ≤ 68719476736) : PFn Tryz.prog 109 [.str m, .rptr d.enc] (.bool (!decide (m ∈ d.faces))) := by
  have h := sContainsStr d.faces m (by omega)
  refine AFn.plain rfl (by simp [AV.closed, AV.closedL, Dfn.closed]) (AFn.enter [3] Tryz.func109 rfl rfl rfl rfl rfl (by decide) ?_)
  refine .gob ?_
  exact Fin.ret1 rfl (Weak.refl _)
theorem wFaces2 (s : Sch) (d : Dfn) (n : Str) (hs : s.size ≤ 68719476736) (hd : d.faces.length ≤ 68719476736) : PFn Tryz.prog 107 [.str n, .rptr s.enc, .rptr d.enc] (.bool (face2 s d n)) := by
  have h1 := dFind s n hs
  have hz := findR_size (name := n) hs
  have h2 := sContainsFStr (findR s n).1.faces 109 [.rptr d.enc] (fun m => !decide (m ∈ d.faces)) (by omega) (by simp [AV.closed, AV.closedL, Dfn.closed]) (fun m _ => wFaces3 d m hd)
  refine AFn.plain rfl (by simp [AV.closed, AV.closedL, Dfn.closed, Sch.closed]) (AFn.enter [4] Tryz.func107 rfl rfl rfl rfl rfl (by decide) ?_)
  unfold face2
  generalize findR s n = r at h1 h2
  obtain ⟨x, ok⟩ := r
  simp only at h1 h2 ⊢
  cases ok
  · refine .gob ?_
    exact Fin.ret1 rfl (Weak.refl _)
  cases c2 : (x.kind != 2)
  · cases c3 : (n == d.name)
    all_goals
      refine .gob ?_
      exact Fin.ret1 rfl (Weak.refl _)
  · refine .gob ?_
    exact Fin.ret1 rfl (Weak.refl _)
theorem wFaces1 (s : Sch) (d : Dfn) (hs : s.size ≤ 68719476736) (hd : d ∈ s.defs) : PFn Tryz.prog 106 [d.enc, .rptr s.enc] (.bool (faces1 s d)) := by
  have hds := Sch.dfn hd
  have hl := d.lens
  have h := sContainsFStr d.faces 107 [.rptr s.enc, .rptr d.enc] (face2 s d) (by omega) (by simp [AV.closed, AV.closedL, Dfn.closed, Sch.closed]) (fun n _ => wFaces2 s d n hs (by omega))
  refine AFn.plain rfl (by simp [AV.closed, AV.closedL, Dfn.closed, Sch.closed]) (AFn.enter [3] Tryz.func106 rfl rfl rfl rfl rfl (by decide) ?_)
  unfold faces1
  refine .gob ?_
  exact Fin.ret1 rfl (Weak.refl _)
theorem wR_typed (s : Sch) (hs : s.size ≤ 68719476736) : PFn Tryz.prog 43 [s.enc] (.bool (typedB s)) := by
  have h := wEvery s 101 [.rptr s.enc] (typed1 s) hs (by simp [AV.closed, AV.closedL, Sch.closed]) (fun d hd => wTyped1 s d hs hd)
  refine AFn.plain rfl (by simp [AV.closedL, Sch.closed]) (AFn.enter [2] Tryz.func43 rfl rfl rfl rfl rfl (by decide) ?_)
  unfold typedB
  refine .gob ?_
  exact Fin.ret1 rfl (Weak.refl _)
theorem wR_faces (s : Sch) (hs : s.size ≤ 68719476736) : PFn Tryz.prog 44 [s.enc] (.bool (facesB s)) := by
  have h := wEvery s 106 [.rptr s.enc] (faces1 s) hs (by simp [AV.closed, AV.closedL, Sch.closed]) (fun d hd => wFaces1 s d hs hd)
  refine AFn.plain rfl (by simp [AV.closedL, Sch.closed]) (AFn.enter [2] Tryz.func44 rfl rfl rfl rfl rfl (by decide) ?_)
  unfold facesB
  refine .gob ?_
  exact Fin.ret1 rfl (Weak.refl _)
mutual
def szV : Val → Nat
  | .mk _ _ s l m => 1 + s.length + szL l + szM m
def szL : List Val → Nat
  | [] => 0
  | v :: l => szV v + szL l
def szM : List Mem → Nat
  | [] => 0
  | .mk n v :: m => n.length + szV v + szM m
end
mutual
theorem szV_le : ∀ v : Val, szV v ≤ v.size
  | .mk _ _ s l m => by
    have h1 := szL_le l
    have h2 := szM_le m
    rw [szV, Val.size]; omega
theorem szL_le : ∀ l : List Val, szL l ≤ Val.sizeL l
  | [] => by rw [szL]; omega
  | v :: l => by
    have h1 := szV_le v
    have h2 := szL_le l
    rw [szL, Val.sizeL]; omega
theorem szM_le : ∀ m : List Mem, szM m ≤ Val.sizeM m
  | [] => by rw [szM]; omega
  | .mk n v :: m => by
    have h1 := szV_le v
    have h2 := szM_le m
    rw [szM, Val.sizeM]; omega
end
theorem szV_eq (v : Val) : szV v = 1 + v.s.length + szL v.l + szM v.m := by cases v; rw [szV]; rfl
theorem szL_take {l : List Val} {k : Nat} (h : k < l.length) : szL (l.take (k + 1)) = szL (l.take k) + szV l[k] := by
  induction l generalizing k with
  | nil => simp at h
  | cons x l ih =>
    cases k with
    | zero => simp [szL]
    | succ k => simp only [List.take_succ_cons, szL, List.getElem_cons_succ]; rw [ih (by simpa using h)]; omega
theorem szM_take {l : List Mem} {k : Nat} (h : k < l.length) : szM (l.take (k + 1)) = szM (l.take k) + l[k].name.length + szV l[k].v := by
  induction l generalizing k with
  | nil => simp at h
  | cons x l ih =>
    cases k with
    | zero => cases x; simp [szM, Mem.name, Mem.v]
    | succ k => cases x; simp only [List.take_succ_cons, szM, List.getElem_cons_succ]; rw [ih (by simpa using h)]; omega
theorem szL_mono (l : List Val) (k : Nat) : szL (l.take k) ≤ szL l := by
  induction l generalizing k with
  | nil => simp
  | cons x l ih =>
    cases k with
    | zero => simp [szL]
    | succ k => simp only [List.take_succ_cons, szL]; have := ih k; omega
theorem szM_mono (l : List Mem) (k : Nat) : szM (l.take k) ≤ szM l := by
  induction l generalizing k with
  | nil => simp
  | cons x l ih =>
    cases k with
    | zero => simp [szM]
    | succ k => cases x; simp only [List.take_succ_cons, szM]; have := ih k; omega
theorem kSize : ∀ N : Nat, N ≤ 137438953472 → ∀ v : Val, v.size ≤ N → PFn Tryz.prog 15 [v.enc] (.int .i64 (szV v))
  | 0, _, v, hv => absurd hv (by have := v.size_pos; omega)
  | N + 1, hN, v, hv => by
    have ih := kSize N (by omega)
    have hle := szV_le v
    have heq := szV_eq v
    have hll := v.l_len
    have hml := v.m_len
    refine AFn.plain rfl (by simp [AV.closedL, Val.closed]) (AFn.enter [2] Tryz.func15 rfl rfl rfl rfl rfl (by decide) ?_)
    refine .gob ?_
    refine HCode.forK v.l.length (fun k => [(4, .int .i64 k), (3, .int .i64 ((1 : Int) + v.s.length + szL (v.l.take k))), (1, .rptr v.enc)]) (fun _ => ⟨[], []⟩) (fun _ => True) ⟨rfl, congrArg (AV.int .i64) (by simp [szL]), rfl, trivial⟩ rfl trivial fun k hk _ => ?_
    by_cases h1 : k < v.l.length
    · have d1 : decide ((k : Int) < (v.lv.length : Int)) = true := by rw [v.lv_len]; simp [h1]
      have x1 := Val.lv_get h1
      have hc := ih v.l[k] (by have := Val.size_l h1; omega)
      have ht := szL_take h1
      have hm := szL_mono v.l (k + 1)
      refine .go ?_
      exact ⟨h1, ⟨rfl, congrArg (AV.int .i64) (by rw [ht]; omega), rfl, trivial⟩, by simp [belowS, AV.low], rfl, rfl, trivial⟩
    · have d1 : decide ((k : Int) < (v.lv.length : Int)) = false := by rw [v.lv_len]; simp; omega
      obtain rfl : k = v.l.length := by omega
      refine .go ?_
      refine HCode.forK v.m.length (fun k => [(5, .int .i64 k), (3, .int .i64 ((1 : Int) + v.s.length + szL v.l + szM (v.m.take k))), (1, .rptr v.enc)]) (fun _ => ⟨[], []⟩) (fun _ => True) ⟨rfl, congrArg (AV.int .i64) (by simp [szM]), rfl, trivial⟩ rfl trivial fun j hj _ => ?_
      by_cases h2 : j < v.m.length
      · have d2 : decide ((j : Int) < (v.mv.length : Int)) = true := by rw [v.mv_len]; simp [h2]
        have x2 := Val.mv_get h2
        have hc := ih v.m[j].v (by have := Val.size_m h2; omega)
        have ht := szM_take h2
        have hm := szM_mono v.m (j + 1)
        refine .go ?_
        exact ⟨h2, ⟨rfl, congrArg (AV.int .i64) (by rw [ht]; omega), rfl, trivial⟩, by simp [belowS, AV.low], rfl, rfl, trivial⟩
      · have d2 : decide ((j : Int) < (v.mv.length : Int)) = false := by rw [v.mv_len]; simp; omega
        obtain rfl : j = v.m.length := by omega
        refine .go ?_
        refine Fin.ret1 rfl (Weak.eq (congrArg (AV.int .i64) ?_))
        rw [List.take_length, heq]; omega
theorem kSize' (v : Val) (h : v.size ≤ 137438953472) : PFn Tryz.prog 15 [v.enc] (.int .i64 (szV v)) := kSize _ h v (Nat.le_refl _)
def ltStrs (l : List Str) : Nat := sumSize (fun s : Str => 1 + s.length) l
def ltPars (l : List Par) : Nat := sumSize (fun p : Par => 1 + p.name.length + szV p.d) l
def ltDirs (l : List Dirc) : Nat := sumSize (fun d : Dirc => 1 + d.name.length + (1 + szM d.args)) l
def ltFlds (l : List Fld) : Nat := sumSize (fun f : Fld => 1 + f.name.length + ltPars f.params + ltDirs f.dirs) l
def ltDfn (d : Dfn) : Nat := 1 + d.name.length + ltStrs d.faces + ltStrs d.parts + ltPars d.params + ltFlds d.fields
def ltSch (s : Sch) : Nat := sumSize ltDfn s.defs
theorem sum_take {α : Type} {f : α → Nat} {l : List α} {k : Nat} (h : k < l.length) : sumSize f (l.take (k + 1)) = sumSize f (l.take k) + f l[k] := by
  induction l generalizing k with
  | nil => simp at h
  | cons x l ih =>
    cases k with
    | zero => simp [sumSize]
    | succ k => simp only [List.take_succ_cons, sumSize, List.getElem_cons_succ]; rw [ih (by simpa using h)]; omega
theorem sum_mono {α : Type} (f : α → Nat) (l : List α) (k : Nat) : sumSize f (l.take k) ≤ sumSize f l := by
  induction l generalizing k with
  | nil => simp
  | cons x l ih =>
    cases k with
    | zero => simp [sumSize]
    | succ k => simp only [List.take_succ_cons, sumSize]; have := ih k; omega
theorem sum_le {α : Type} {f g : α → Nat} (h : ∀ x, f x ≤ g x) : ∀ l : List α, sumSize f l ≤ sumSize g l
  | [] => Nat.le_refl _
  | x :: l => by simp only [sumSize]; have := h x; have := sum_le h l; omega
theorem szM_sum (m : List Mem) : szM m ≤ sumSize Mem.size m := by rw [← Val.sizeM_eq]; exact szM_le m
theorem ltStrs_le (l : List Str) : ltStrs l ≤ strsSize l := by
  have : ltStrs l ≤ sumSize (fun s : Str => s.length + 1) l := sum_le (fun _ => by omega) l
  unfold strsSize; omega
theorem ltPars_le (l : List Par) : ltPars l ≤ sumSize Par.size l := sum_le (fun p => by have := szV_le p.d; unfold Par.size; omega) l
theorem ltDirs_le (l : List Dirc) : ltDirs l ≤ sumSize Dirc.size l := sum_le (fun d => by have := szM_sum d.args; unfold Dirc.size; omega) l
theorem ltFlds_le (l : List Fld) : ltFlds l ≤ sumSize Fld.size l := sum_le (fun f => by have := ltPars_le f.params; have := ltDirs_le f.dirs; unfold Fld.size; omega) l
theorem ltDfn_le (d : Dfn) : ltDfn d ≤ d.size := by
  have := ltStrs_le d.faces; have := ltStrs_le d.parts; have := ltPars_le d.params; have := ltFlds_le d.fields
  unfold ltDfn Dfn.size; omega
theorem ltSch_le (s : Sch) : ltSch s ≤ s.size := by
  have : ltSch s ≤ sumSize Dfn.size s.defs := sum_le ltDfn_le s.defs
  unfold Sch.size; omega
theorem ltTexts (l : List Str) (h : ltStrs l ≤ 68719476736) (hl : l.length ≤ 68719476736) : PFn Tryz.prog 20 [.slice (l.map AV.str) .no] (.int .i64 (ltStrs l)) := by
  refine AFn.plain rfl (by simp [AV.closedL, AV.closed, str_closedL]) (AFn.enter [2] Tryz.func20 rfl rfl rfl rfl rfl (by decide) ?_)
  refine .go ?_
  refine HCode.forK l.length (fun k => [(4, .int .i64 k), (3, .int .i64 (ltStrs (l.take k))), (0, .slice (l.map AV.str) .no)]) (fun _ => ⟨[], []⟩) (fun _ => True) ⟨rfl, rfl, rfl, trivial⟩ rfl trivial fun k hk _ => ?_
  by_cases h1 : k < l.length
  · have d1 : decide ((k : Int) < (l.length : Int)) = true := by simp [h1]
    have x1 := map_get' (f := AV.str) h1
    have ht : ltStrs (l.take (k + 1)) = ltStrs (l.take k) + (1 + l[k].length) := sum_take h1
    have hm : ltStrs (l.take (k + 1)) ≤ ltStrs l := sum_mono _ l (k + 1)
    refine .go ?_
    exact ⟨h1, ⟨rfl, congrArg (AV.int .i64) (by rw [ht]; omega), rfl, trivial⟩, by simp [belowS, AV.low], rfl, rfl, trivial⟩
  · have d1 : decide ((k : Int) < (l.length : Int)) = false := by simp; omega
    obtain rfl : k = l.length := by omega
    refine .go ?_
    refine Fin.ret1 rfl (Weak.eq (congrArg (AV.int .i64) ?_))
    rw [List.take_length]
theorem ltParams (l : List Par) (h : sumSize Par.size l ≤ 68719476736) : PFn Tryz.prog 21 [.slice (l.map Par.enc) .no] (.int .i64 (ltPars l)) := by
  have hl := sumSize_length Par.size_pos l
  have hle := ltPars_le l
  refine AFn.plain rfl (by simp [AV.closedL, AV.closed, Par.closedL]) (AFn.enter [2] Tryz.func21 rfl rfl rfl rfl rfl (by decide) ?_)
  refine .go ?_
  refine HCode.forK l.length (fun k => [(4, .int .i64 k), (3, .int .i64 (ltPars (l.take k))), (0, .slice (l.map Par.enc) .no)]) (fun _ => ⟨[], []⟩) (fun _ => True) ⟨rfl, rfl, rfl, trivial⟩ rfl trivial fun k hk _ => ?_
  by_cases h1 : k < l.length
  · have d1 : decide ((k : Int) < (l.length : Int)) = true := by simp [h1]
    have x1 := map_get' (f := Par.enc) h1
    have hz := kSize' l[k].d (by have := sumSize_mem (size := Par.size) (List.getElem_mem h1); have := l[k].lens; omega)
    have ht : ltPars (l.take (k + 1)) = ltPars (l.take k) + (1 + l[k].name.length + szV l[k].d) := sum_take h1
    have hm : ltPars (l.take (k + 1)) ≤ ltPars l := sum_mono _ l (k + 1)
    refine .go ?_
    exact ⟨h1, ⟨rfl, congrArg (AV.int .i64) (by rw [ht]; omega), rfl, trivial⟩, by simp [belowS, AV.low], rfl, rfl, trivial⟩
  · have d1 : decide ((k : Int) < (l.length : Int)) = false := by simp; omega
    obtain rfl : k = l.length := by omega
    refine .go ?_
    refine Fin.ret1 rfl (Weak.eq (congrArg (AV.int .i64) ?_))
    rw [List.take_length]
theorem ltDirsW (l : List Dirc) (h : sumSize Dirc.size l ≤ 68719476736) : PFn Tryz.prog 22 [.slice (l.map Dirc.enc) .no] (.int .i64 (ltDirs l)) := by
  have hl := sumSize_length Dirc.size_pos l
  have hle := ltDirs_le l
  refine AFn.plain rfl (by simp [AV.closedL, AV.closed, Dirc.closedL]) (AFn.enter [2] Tryz.func22 rfl rfl rfl rfl rfl (by decide) ?_)
  refine .go ?_
  refine HCode.forK l.length (fun k => [(4, .int .i64 k), (3, .int .i64 (ltDirs (l.take k))), (0, .slice (l.map Dirc.enc) .no)]) (fun _ => ⟨[], []⟩) (fun _ => True) ⟨rfl, rfl, rfl, trivial⟩ rfl trivial fun k hk _ => ?_
  by_cases h1 : k < l.length
  · have d1 : decide ((k : Int) < (l.length : Int)) = true := by simp [h1]
    have x1 := map_get' (f := Dirc.enc) h1
    have hz := kSize' (.mk 0 0 [] [] l[k].args) (by
      have h2 := sumSize_mem (size := Dirc.size) (List.getElem_mem h1)
      have h3 : l[k].size = l[k].name.length + sumSize Mem.size l[k].args + 3 := rfl
      rw [Val.size, Val.sizeL, Val.sizeM_eq]; simp only [List.length_nil]; omega)
    have e0 : szV (.mk 0 0 [] [] l[k].args) = 1 + szM l[k].args := by rw [szV, szL]; simp only [List.length_nil]
    rw [e0] at hz
    have ew : WeakL [AV.agg [.int .i64 0, .int .i64 0, .str [], .slice [] .nil, .slice (l[k].args.map Mem.enc) .no]] [(Val.mk 0 0 [] [] l[k].args).enc] := by
      refine WeakL.cons ?_ (WeakL.refl _)
      unfold Val.enc
      rw [lv_mk, Val.mv_eq]
      exact Weak.agg (WeakL.cons (Weak.refl _) (WeakL.cons (Weak.refl _) (WeakL.cons (Weak.refl _) (WeakL.cons (Weak.no (WeakL.refl _)) (WeakL.refl _)))))
    have ht : ltDirs (l.take (k + 1)) = ltDirs (l.take k) + (1 + l[k].name.length + (1 + szM l[k].args)) := sum_take h1
    have hm : ltDirs (l.take (k + 1)) ≤ ltDirs l := sum_mono _ l (k + 1)
    repeat' first | refine A.call rfl hz ew ?_ | refine .s1 ?_ | (refine .cond rfl ?_ ?_ <;> intro hc) | (refine A.guard rfl ?_ ?_ <;> intro hc) | fail
    exact ⟨h1, ⟨rfl, congrArg (AV.int .i64) (by rw [ht]; omega), rfl, trivial⟩, by simp [belowS, AV.low], rfl, rfl, trivial⟩
  · have d1 : decide ((k : Int) < (l.length : Int)) = false := by simp; omega
    obtain rfl : k = l.length := by omega
    refine .go ?_
    refine Fin.ret1 rfl (Weak.eq (congrArg (AV.int .i64) ?_))
    rw [List.take_length]
theorem Dfn.sums (d : Dfn) : sumSize Par.size d.params ≤ d.size ∧ sumSize Fld.size d.fields ≤ d.size ∧ strsSize d.faces ≤ d.size ∧ strsSize d.parts ≤ d.size := by unfold Dfn.size; omega
theorem Fld.sums (f : Fld) : sumSize Par.size f.params ≤ f.size ∧ sumSize Dirc.size f.dirs ≤ f.size ∧ f.name.length ≤ f.size ∧ f.t.name.length ≤ f.size := by unfold Fld.size Typ.size; omega
def lightS (s : Sch) : Bool := decide (ltSch s ≤ 4000)
theorem light8 (s : Sch) (hs : s.size ≤ 68719476736) : PFn Tryz.prog 6 [s.enc] (.bool (lightS s)) := by
  have hl := s.len
  have hle := ltSch_le s
  refine AFn.plain rfl (by simp [AV.closedL, Sch.closed]) (AFn.enter [2] Tryz.func6 rfl rfl rfl rfl rfl (by decide) ?_)
  refine .gob ?_
  refine HCode.forK s.defs.length (fun k => [(4, .int .i64 k), (3, .int .i64 (sumSize ltDfn (s.defs.take k) : Nat)), (1, .rptr s.enc)]) (fun _ => ⟨[], []⟩) (fun _ => True) ⟨rfl, rfl, rfl, trivial⟩ rfl trivial fun k hk _ => ?_
  by_cases h1 : k < s.defs.length
  · have d1 : decide ((k : Int) < (s.defs.length : Int)) = true := by simp [h1]
    have x1 := map_get' (f := Dfn.enc) h1
    have hds := Sch.dfn (List.getElem_mem h1)
    have hlen := s.defs[k].lens
    have hsum := s.defs[k].sums
    have q1 := ltTexts s.defs[k].faces (by have := ltStrs_le s.defs[k].faces; omega) (by omega)
    have q2 := ltTexts s.defs[k].parts (by have := ltStrs_le s.defs[k].parts; omega) (by omega)
    have q3 := ltParams s.defs[k].params (by omega)
    have ht : sumSize ltDfn (s.defs.take (k + 1)) = sumSize ltDfn (s.defs.take k) + ltDfn s.defs[k] := sum_take h1
    have hm : sumSize ltDfn (s.defs.take (k + 1)) ≤ ltSch s := sum_mono _ s.defs (k + 1)
    have hdd : ltDfn s.defs[k] = 1 + s.defs[k].name.length + ltStrs s.defs[k].faces + ltStrs s.defs[k].parts + ltPars s.defs[k].params + ltFlds s.defs[k].fields := rfl
    refine .go ?_
    refine HCode.forK s.defs[k].fields.length (fun j => [(6, .int .i64 j), (3, .int .i64 ((sumSize ltDfn (s.defs.take k) : Nat) + 1 + s.defs[k].name.length + ltStrs s.defs[k].faces + ltStrs s.defs[k].parts + ltPars s.defs[k].params + ltFlds (s.defs[k].fields.take j))), (1, .rptr s.enc), (4, .int .i64 k), (5, .ptr 0 0)])
      (fun _ => ⟨[.cells [.int .i64 s.defs[k].kind, .str s.defs[k].name, .slice (s.defs[k].faces.map AV.str) .no, .slice (s.defs[k].fields.map Fld.enc) .no, .slice (s.defs[k].parts.map AV.str) .no, .slice (s.defs[k].params.map Par.enc) .no]], []⟩) (fun _ => True)
      ⟨rfl, congrArg (AV.int .i64) (by rw [List.take_zero]; simp [ltFlds, sumSize]), rfl, rfl, rfl, trivial⟩ rfl trivial fun j hj _ => ?_
    by_cases h2 : j < s.defs[k].fields.length
    · have d2 : decide ((j : Int) < (s.defs[k].fields.length : Int)) = true := by simp [h2]
      have x2 := map_get' (f := Fld.enc) h2
      have hfm := sumSize_mem (size := Fld.size) (List.getElem_mem h2)
      have hfs := s.defs[k].fields[j].sums
      have q4 := ltParams s.defs[k].fields[j].params (by omega)
      have q5 := ltDirsW s.defs[k].fields[j].dirs (by omega)
      have hft : ltFlds (s.defs[k].fields.take (j + 1)) = ltFlds (s.defs[k].fields.take j) + (1 + s.defs[k].fields[j].name.length + ltPars s.defs[k].fields[j].params + ltDirs s.defs[k].fields[j].dirs) := sum_take h2
      have hfm' : ltFlds (s.defs[k].fields.take (j + 1)) ≤ ltFlds s.defs[k].fields := sum_mono _ _ (j + 1)
      refine .go ?_
      exact ⟨h2, ⟨rfl, congrArg (AV.int .i64) (by rw [hft]; omega), rfl, rfl, rfl, trivial⟩, by simp [belowS, AV.low], by simp [belowB, belowT, Ob.low, AV.lowL, AV.low], rfl, trivial⟩
    · have d2 : decide ((j : Int) < (s.defs[k].fields.length : Int)) = false := by simp; omega
      obtain rfl : j = s.defs[k].fields.length := by omega
      refine .go ?_
      exact ⟨h1, ⟨rfl, congrArg (AV.int .i64) (by rw [ht, List.take_length]; omega), rfl, trivial⟩, by simp [belowS, AV.low], rfl, rfl, trivial⟩
  · have d1 : decide ((k : Int) < (s.defs.length : Int)) = false := by simp; omega
    obtain rfl : k = s.defs.length := by omega
    refine .go ?_
    refine Fin.ret1 rfl (Weak.eq (congrArg AV.bool ?_))
    unfold lightS ltSch
    rw [List.take_length, Bool.eq_iff_iff]; simp only [decide_eq_true_eq]; omega
end Go.Proofs.YtgghkkeejagfkaaGreatDoor
