/-
  Contracts and plain facts for a law, joined.
-/
import Derived.Test.YtegakkonlhmeaaaAvRen4
import Derived.Test.YtegakkonlhmeaaaGPA1
set_option maxRecDepth 100000
set_option maxHeartbeats 16000000
set_option linter.unusedVariables false
set_option linter.unusedSimpArgs false
set_option linter.unusedSectionVars false
namespace Go.Proofs.Ytegakkonlhmeaaa
open Go Go.Av
attribute [local irreducible] HCode AOps PFn AFn Av.Step TStep
def openT (t : Tbl) : AV := .agg [.str t.name, .vec 1 4 t.rows.length 0 t.rows.length]
def twinPre (l : List Tbl) (i k : Nat) : List AV :=
  match l[i]? with
  | some t => ((l.take k).map Tbl.enc).set i (openT t)
  | none => (l.take k).map Tbl.enc
def twinTok (l : List Tbl) (i k : Nat) : List Tok :=
  match l[i]? with
  | some t => if i < k then [.vec (twinPre l i k), .vec (t.rows.map Row.enc)] else [.vec (twinPre l i k)]
  | none => [.vec (twinPre l i k)]
theorem twinPre_len (l : List Tbl) (i k : Nat) (h : k ≤ l.length) : (twinPre l i k).length = k := by
  unfold twinPre; split <;> simp <;> omega
theorem lowL_append {a n : Nat} : ∀ (xs ys : List AV), AV.lowL a n (xs ++ ys) = (AV.lowL a n xs && AV.lowL a n ys)
  | [], ys => by simp [AV.lowL]
  | x :: xs, ys => by rw [List.cons_append, AV.lowL, AV.lowL, lowL_append xs ys, Bool.and_assoc]
theorem twinPre_low {a n : Nat} (l : List Tbl) (i k : Nat) (h : i < k → 1 < n) : AV.lowL a n (twinPre l i k) = true := by
  have hc : ∀ L : List Tbl, AV.lowL a n (L.map Tbl.enc) = true := fun L => Tbl.lowL a n L
  unfold twinPre
  split
  · rename_i t ht
    by_cases hik : i < k
    · have key : ∀ (L : List AV) (j : Nat) (y : AV), AV.lowL a n L = true → y.low a n = true → AV.lowL a n (L.set j y) = true := by
        intro L
        induction L with
        | nil => intro j y h1 h2; exact h1
        | cons b L ih =>
          intro j y h1 h2
          simp only [AV.lowL, Bool.and_eq_true] at h1
          cases j with
          | zero => simp only [List.set_cons_zero, AV.lowL, Bool.and_eq_true]; exact ⟨h2, h1.2⟩
          | succ j => simp only [List.set_cons_succ, AV.lowL, Bool.and_eq_true]; exact ⟨h1.1, ih j y h1.2 h2⟩
      refine key _ _ _ (hc _) ?_
      simp [openT, AV.low, AV.lowL, h hik]
    · rw [List.set_eq_of_length_le (by simp; omega)]
      exact hc _
  · exact hc _
theorem twinPre_next (l : List Tbl) (i k : Nat) (hk : k < l.length) : twinPre l i (k + 1) = twinPre l i k ++ [if i = k then openT l[k] else l[k].enc] := by
  have hm : (l.take (k + 1)).map Tbl.enc = (l.take k).map Tbl.enc ++ [l[k].enc] := by
    rw [List.take_succ_eq_append_getElem hk, List.map_append]; rfl
  have hlen : ((l.take k).map Tbl.enc).length = k := by simp; omega
  unfold twinPre
  split
  · rename_i t ht
    rw [hm]
    by_cases e : i = k
    · subst e
      have : t = l[i] := by rw [List.getElem?_eq_getElem hk] at ht; exact (Option.some.inj ht).symm
      subst this
      rw [List.set_append_right _ _ (by omega), hlen, Nat.sub_self, if_pos rfl, List.set_eq_of_length_le (l := (l.take i).map Tbl.enc) (by omega)]
      rfl
    · rw [if_neg e]
      by_cases h : i < k
      · rw [List.set_append_left _ _ (by omega)]
      · rw [List.set_append_right _ _ (by omega), hlen, List.set_eq_of_length_le (l := (l.take k).map Tbl.enc) (by omega), List.set_eq_of_length_le (by simp; omega)]
  · rename_i ht
    rw [hm, if_neg (fun e => by subst e; rw [List.getElem?_eq_getElem hk] at ht; cases ht)]
theorem take_enc {α : Type} {f : α → AV} {l : List α} {j : Nat} (h : j < l.length) : (l.take j).map f ++ [f l[j]] = (l.take (j + 1)).map f := by
  rw [List.take_succ_eq_append_getElem h, List.map_append]; rfl
theorem twinTok_a (l : List Tbl) (i k : Nat) (h : i < k) (hl : i < l.length) : twinTok l i k = [.vec (twinPre l i k), .vec (l[i].rows.map Row.enc)] := by
  unfold twinTok; rw [List.getElem?_eq_getElem hl]; simp only [if_pos h]
theorem twinTok_b (l : List Tbl) (i k : Nat) (h : ¬ i < k) : twinTok l i k = [.vec (twinPre l i k)] := by
  unfold twinTok; split <;> simp [h]
theorem twinA (l : List Tbl) (i : Nat) (hl : l.length ≤ 1048576) (hr : ∀ t ∈ l, t.rows.length ≤ 1048576) (hcl : ∀ t ∈ l, ∀ r ∈ t.rows, r.cols.length ≤ 1048576) :
    AFn Try.prog 17 [Tbls.enc l] ⟨[], []⟩ (fun e σ => e = .ret (.vec 0 2 l.length 0 l.length) ∧ σ = ⟨[], twinTok l i l.length⟩) := by
  refine AFn.enter [2] Try.func17 rfl rfl rfl rfl rfl (by decide) ?_
  repeat' first | refine .seq ?_ | refine .rg ?_ | refine .rd ?_ | refine .block ?_ | refine .scope ?_ | refine .skip ?_ | refine .label ?_ | refine .exit ?_ | refine .ret ?_ | refine .ct ?_ | refine .cf ?_ | refine .cy ?_ | refine .cn ?_ | (refine .cond rfl ?_ ?_ <;> intro hc) | refine A.nil_seq ?_ | refine .nl ?_ | refine .dd ?_ | refine .ys ?_ | refine .no ?_ | (refine A.guard rfl ?_ ?_ <;> intro hc) | refine .lb ?_ | refine .ln ?_ | refine .ls ?_ | refine .pv ?_ | refine .ix ?_ | refine .pt ?_ | refine .pf ?_ | refine .bx ?_ | refine .al ?_ | refine .st ?_ | refine .ad ?_ | refine .sb ?_ | refine .mf ?_ | refine .cl ?_ | refine .cw ?_ | refine .ck ?_ | fail
  change HCode _ _ _ _ _ _ _
  refine HCode.turn 3 rfl (Turn.vadopt (z := 2) rfl rfl rfl) ?_
  refine HCode.loopG (fun n s σ => ∃ k : Nat, n = l.length - k ∧ k ≤ l.length ∧ σ = ⟨[], twinTok l i k⟩ ∧ s = [(11, .int .i64 k), (10, .int .i64 l.length), (9, Tbls.enc l), (3, .vec 0 2 k 0 k)])
    (s0 := [(11, .int .i64 (0 : Nat)), (10, .int .i64 l.length), (9, Tbls.enc l), (3, .vec 0 2 0 0 0)])
    ⟨rfl, rfl, rfl, rfl, trivial⟩ ⟨0, rfl, Nat.zero_le _, (by rw [twinTok_b l i 0 (by omega)]; unfold twinPre; split <;> rfl), rfl⟩ ?_
  rintro n s σ ⟨k, rfl, hk, rfl, rfl⟩
  by_cases h1 : k < l.length
  · have d1 : decide ((k : Int) < (l.length : Int)) = true := by simp [h1]
    have x1 := map_get' (f := Tbl.enc) h1
    have hrl := hr _ (List.getElem_mem h1)
    have hpl := twinPre_len l i k hk
    have hnx := twinPre_next l i k h1
    rcases Nat.lt_trichotomy i k with hik | hik | hik
    · rw [twinTok_a l i k hik (by omega)]
      repeat' first | refine .seq ?_ | refine .rg ?_ | refine .rd ?_ | refine .block ?_ | refine .scope ?_ | refine .skip ?_ | refine .label ?_ | refine .exit ?_ | refine .ret ?_ | refine .ct ?_ | refine .cf ?_ | refine .cy ?_ | refine .cn ?_ | (refine .cond rfl ?_ ?_ <;> intro hc) | refine A.nil_seq ?_ | refine .nl ?_ | refine .dd ?_ | refine .ys ?_ | refine .no ?_ | (refine A.guard rfl ?_ ?_ <;> intro hc) | refine .lb ?_ | refine .ln ?_ | refine .ls ?_ | refine .pv ?_ | refine .ix ?_ | refine .pt ?_ | refine .pf ?_ | refine .bx ?_ | refine .al ?_ | refine .st ?_ | refine .ad ?_ | refine .sb ?_ | refine .mf ?_ | refine .cl ?_ | refine .cw ?_ | refine .ck ?_ | fail
      change HCode _ _ _ _ _ _ _
      refine HCode.turnB 0 1 rfl rfl (Turn.vadopt (z := 4) rfl rfl rfl) rfl ?_
      refine HCode.loop (fun n s σ => ∃ j : Nat, n = l[k].rows.length - j ∧ j ≤ l[k].rows.length ∧ σ = ⟨[.cells [.str l[k].name, .vec 2 4 j 0 j]], [.vec (twinPre l i k), .vec (l[i].rows.map Row.enc)] ++ [.vec ((l[k].rows.take j).map Row.enc)]⟩ ∧
        s = [(20, .int .i64 j), (19, .int .i64 l[k].rows.length), (18, .slice (l[k].rows.map Row.enc) .no), (11, .int .i64 k), (10, .int .i64 l.length), (9, Tbls.enc l), (3, .vec 0 2 k 0 k), (5, .ptr 0 0)])
        (s0 := [(20, .int .i64 (0 : Nat)), (19, .int .i64 l[k].rows.length), (18, .slice (l[k].rows.map Row.enc) .no), (11, .int .i64 k), (10, .int .i64 l.length), (9, Tbls.enc l), (3, .vec 0 2 k 0 k), (5, .ptr 0 0)])
        ⟨rfl, rfl, rfl, rfl, rfl, rfl, rfl, rfl, trivial⟩ ⟨0, rfl, Nat.zero_le _, rfl, rfl⟩ ?_
      rintro n s σ ⟨j, rfl, hj, rfl, rfl⟩
      have hjl : ((l[k].rows.take j).map Row.enc).length = j := by simp; omega
      by_cases h2 : j < l[k].rows.length
      · have d2 : decide ((j : Int) < (l[k].rows.length : Int)) = true := by simp [h2]
        have x2 := map_get' (f := Row.enc) h2
        have ht := twin l[k].rows[j] (hcl _ (List.getElem_mem h1) _ (List.getElem_mem h2))
        repeat' first | refine .seq ?_ | refine .rg ?_ | refine .rd ?_ | refine .block ?_ | refine .scope ?_ | refine .skip ?_ | refine .label ?_ | refine .exit ?_ | refine .ret ?_ | refine .ct ?_ | refine .cf ?_ | refine .cy ?_ | refine .cn ?_ | (refine .cond rfl ?_ ?_ <;> intro hc) | refine A.nil_seq ?_ | refine .nl ?_ | refine .dd ?_ | refine .ys ?_ | refine .no ?_ | (refine A.guard rfl ?_ ?_ <;> intro hc) | refine .lb ?_ | refine .ln ?_ | refine .ls ?_ | refine .pv ?_ | refine .ix ?_ | refine .pt ?_ | refine .pf ?_ | refine .bx ?_ | refine .al ?_ | refine .st ?_ | refine .ad ?_ | refine .sb ?_ | refine .mf ?_ | refine .cl ?_ | refine .cw ?_ | refine .ck ?_ | refine A.call rfl ht (WeakL.refl _) ?_ | refine A.vappend (m := j + 1) rfl rfl rfl rfl rfl rfl rfl rfl hjl rfl rfl (by dsimp only; omega) (by omega) rfl ?_ | fail
        refine ⟨l[k].rows.length - (j + 1), by omega, [(20, .int .i64 ((j + 1 : Nat) : Int)), (19, .int .i64 l[k].rows.length), (18, .slice (l[k].rows.map Row.enc) .no), (11, .int .i64 k), (10, .int .i64 l.length), (9, Tbls.enc l), (3, .vec 0 2 k 0 k), (5, .ptr 0 0)],
          ⟨rfl, rfl, rfl, rfl, rfl, rfl, rfl, rfl, trivial⟩, by simp [belowS, AV.low, Row.lowL, Tbls.enc, Tbl.lowL], ?_, j + 1, rfl, by omega, ?_, rfl⟩
        · have hp2 := twinPre_low (a := 1) (n := 2 + 1) l i k (by omega)
          have hp4 := Row.lowL 1 (2 + 1) (l[k].rows.take j)
          simp [-List.map_take, belowB, belowT, Ob.low, Tok.low, AV.lowL, AV.low, lowL_append, hp2, hp4, Mem.lowL, Row.lowL]
        · rw [← take_enc h2]; rfl
      · have d2 : decide ((j : Int) < (l[k].rows.length : Int)) = false := by simp; omega
        have hjn : j = l[k].rows.length := by omega
        subst hjn
        have hfl := hjl
        have hcan : (((l[k].rows.take l[k].rows.length).map Row.enc).take l[k].rows.length).drop 0 = l[k].rows.map Row.enc := by rw [List.take_length, List.drop_zero, List.take_of_length_le (by simp)]
        repeat' first | refine HCode.turnB 0 1 rfl rfl ((Turn.freeze rfl hfl rfl).trans (Turn.weak (Weak.no (WeakL.eq hcan)))) rfl ?_ | refine .seq ?_ | refine .rg ?_ | refine .rd ?_ | refine .block ?_ | refine .scope ?_ | refine .skip ?_ | refine .label ?_ | refine .exit ?_ | refine .ret ?_ | refine .ct ?_ | refine .cf ?_ | refine .cy ?_ | refine .cn ?_ | (refine .cond rfl ?_ ?_ <;> intro hc) | refine A.nil_seq ?_ | refine .nl ?_ | refine .dd ?_ | refine .ys ?_ | refine .no ?_ | (refine A.guard rfl ?_ ?_ <;> intro hc) | refine .lb ?_ | refine .ln ?_ | refine .ls ?_ | refine .pv ?_ | refine .ix ?_ | refine .pt ?_ | refine .pf ?_ | refine .bx ?_ | refine .al ?_ | refine .st ?_ | refine .ad ?_ | refine .sb ?_ | refine .mf ?_ | refine .cl ?_ | refine .cw ?_ | refine .ck ?_ | refine A.vappend (m := k + 1) rfl rfl rfl rfl rfl rfl rfl rfl hpl rfl rfl (by dsimp only; omega) (by omega) rfl ?_ | fail
        refine ⟨l.length - (k + 1), by omega, [(11, .int .i64 ((k + 1 : Nat) : Int)), (10, .int .i64 l.length), (9, Tbls.enc l), (3, .vec 0 2 (k + 1) 0 (k + 1))], 0, 2, Nat.zero_le _, (by simp),
          ⟨rfl, rfl, rfl, rfl, trivial⟩, by simp [belowS, AV.low, Tbls.enc, Tbl.lowL], rfl, ?_, k + 1, rfl, by omega, ?_, rfl⟩
        · have hp2 := twinPre_low (a := 0) (n := 2) l i (k + 1) (by omega)
          rw [hnx, if_neg (by omega)] at hp2
          have hp3 : ∀ L : List Row, AV.lowL 0 2 (L.map Row.enc) = true := fun L => Row.lowL 0 2 L
          simp [-List.map_take, belowT, Tok.low, hp3]
          exact hp2
        · rw [twinTok_a l i (k + 1) (by omega) (by omega), hnx, if_neg (by omega)]
          rfl
    · rw [twinTok_b l i k (by omega)]
      repeat' first | refine .seq ?_ | refine .rg ?_ | refine .rd ?_ | refine .block ?_ | refine .scope ?_ | refine .skip ?_ | refine .label ?_ | refine .exit ?_ | refine .ret ?_ | refine .ct ?_ | refine .cf ?_ | refine .cy ?_ | refine .cn ?_ | (refine .cond rfl ?_ ?_ <;> intro hc) | refine A.nil_seq ?_ | refine .nl ?_ | refine .dd ?_ | refine .ys ?_ | refine .no ?_ | (refine A.guard rfl ?_ ?_ <;> intro hc) | refine .lb ?_ | refine .ln ?_ | refine .ls ?_ | refine .pv ?_ | refine .ix ?_ | refine .pt ?_ | refine .pf ?_ | refine .bx ?_ | refine .al ?_ | refine .st ?_ | refine .ad ?_ | refine .sb ?_ | refine .mf ?_ | refine .cl ?_ | refine .cw ?_ | refine .ck ?_ | fail
      change HCode _ _ _ _ _ _ _
      refine HCode.turnB 0 1 rfl rfl (Turn.vadopt (z := 4) rfl rfl rfl) rfl ?_
      refine HCode.loop (fun n s σ => ∃ j : Nat, n = l[k].rows.length - j ∧ j ≤ l[k].rows.length ∧ σ = ⟨[.cells [.str l[k].name, .vec 1 4 j 0 j]], [.vec (twinPre l i k)] ++ [.vec ((l[k].rows.take j).map Row.enc)]⟩ ∧
        s = [(20, .int .i64 j), (19, .int .i64 l[k].rows.length), (18, .slice (l[k].rows.map Row.enc) .no), (11, .int .i64 k), (10, .int .i64 l.length), (9, Tbls.enc l), (3, .vec 0 2 k 0 k), (5, .ptr 0 0)])
        (s0 := [(20, .int .i64 (0 : Nat)), (19, .int .i64 l[k].rows.length), (18, .slice (l[k].rows.map Row.enc) .no), (11, .int .i64 k), (10, .int .i64 l.length), (9, Tbls.enc l), (3, .vec 0 2 k 0 k), (5, .ptr 0 0)])
        ⟨rfl, rfl, rfl, rfl, rfl, rfl, rfl, rfl, trivial⟩ ⟨0, rfl, Nat.zero_le _, rfl, rfl⟩ ?_
      rintro n s σ ⟨j, rfl, hj, rfl, rfl⟩
      have hjl : ((l[k].rows.take j).map Row.enc).length = j := by simp; omega
      by_cases h2 : j < l[k].rows.length
      · have d2 : decide ((j : Int) < (l[k].rows.length : Int)) = true := by simp [h2]
        have x2 := map_get' (f := Row.enc) h2
        have ht := twin l[k].rows[j] (hcl _ (List.getElem_mem h1) _ (List.getElem_mem h2))
        repeat' first | refine .seq ?_ | refine .rg ?_ | refine .rd ?_ | refine .block ?_ | refine .scope ?_ | refine .skip ?_ | refine .label ?_ | refine .exit ?_ | refine .ret ?_ | refine .ct ?_ | refine .cf ?_ | refine .cy ?_ | refine .cn ?_ | (refine .cond rfl ?_ ?_ <;> intro hc) | refine A.nil_seq ?_ | refine .nl ?_ | refine .dd ?_ | refine .ys ?_ | refine .no ?_ | (refine A.guard rfl ?_ ?_ <;> intro hc) | refine .lb ?_ | refine .ln ?_ | refine .ls ?_ | refine .pv ?_ | refine .ix ?_ | refine .pt ?_ | refine .pf ?_ | refine .bx ?_ | refine .al ?_ | refine .st ?_ | refine .ad ?_ | refine .sb ?_ | refine .mf ?_ | refine .cl ?_ | refine .cw ?_ | refine .ck ?_ | refine A.call rfl ht (WeakL.refl _) ?_ | refine A.vappend (m := j + 1) rfl rfl rfl rfl rfl rfl rfl rfl hjl rfl rfl (by dsimp only; omega) (by omega) rfl ?_ | fail
        refine ⟨l[k].rows.length - (j + 1), by omega, [(20, .int .i64 ((j + 1 : Nat) : Int)), (19, .int .i64 l[k].rows.length), (18, .slice (l[k].rows.map Row.enc) .no), (11, .int .i64 k), (10, .int .i64 l.length), (9, Tbls.enc l), (3, .vec 0 2 k 0 k), (5, .ptr 0 0)],
          ⟨rfl, rfl, rfl, rfl, rfl, rfl, rfl, rfl, trivial⟩, by simp [belowS, AV.low, Row.lowL, Tbls.enc, Tbl.lowL], ?_, j + 1, rfl, by omega, ?_, rfl⟩
        · have hp2 := twinPre_low (a := 1) (n := 1 + 1) l i k (by omega)
          have hp4 := Row.lowL 1 (1 + 1) (l[k].rows.take j)
          simp [-List.map_take, belowB, belowT, Ob.low, Tok.low, AV.lowL, AV.low, lowL_append, hp2, hp4, Mem.lowL, Row.lowL]
        · rw [← take_enc h2]; rfl
      · have d2 : decide ((j : Int) < (l[k].rows.length : Int)) = false := by simp; omega
        have hjn : j = l[k].rows.length := by omega
        subst hjn
        have hfl := hjl
        have hcan : (((l[k].rows.take l[k].rows.length).map Row.enc).take l[k].rows.length).drop 0 = l[k].rows.map Row.enc := by rw [List.take_length, List.drop_zero, List.take_of_length_le (by simp)]
        repeat' first | fail | refine .seq ?_ | refine .rg ?_ | refine .rd ?_ | refine .block ?_ | refine .scope ?_ | refine .skip ?_ | refine .label ?_ | refine .exit ?_ | refine .ret ?_ | refine .ct ?_ | refine .cf ?_ | refine .cy ?_ | refine .cn ?_ | (refine .cond rfl ?_ ?_ <;> intro hc) | refine A.nil_seq ?_ | refine .nl ?_ | refine .dd ?_ | refine .ys ?_ | refine .no ?_ | (refine A.guard rfl ?_ ?_ <;> intro hc) | refine .lb ?_ | refine .ln ?_ | refine .ls ?_ | refine .pv ?_ | refine .ix ?_ | refine .pt ?_ | refine .pf ?_ | refine .bx ?_ | refine .al ?_ | refine .st ?_ | refine .ad ?_ | refine .sb ?_ | refine .mf ?_ | refine .cl ?_ | refine .cw ?_ | refine .ck ?_ | refine A.vappend (m := k + 1) rfl rfl rfl rfl rfl rfl rfl rfl hpl rfl rfl (by dsimp only; omega) (by omega) rfl ?_ | fail
        refine ⟨l.length - (k + 1), by omega, [(11, .int .i64 ((k + 1 : Nat) : Int)), (10, .int .i64 l.length), (9, Tbls.enc l), (3, .vec 0 2 (k + 1) 0 (k + 1))], 0, 2, Nat.zero_le _, (by simp),
          ⟨rfl, rfl, rfl, rfl, trivial⟩, by simp [belowS, AV.low, Tbls.enc, Tbl.lowL], rfl, ?_, k + 1, rfl, by omega, ?_, rfl⟩
        · have hp2 := twinPre_low (a := 0) (n := 2) l i (k + 1) (by omega)
          rw [hnx, if_pos hik] at hp2
          have hp3 : ∀ L : List Row, AV.lowL 0 2 (L.map Row.enc) = true := fun L => Row.lowL 0 2 L
          simp [-List.map_take, belowT, Tok.low, hp3]
          exact hp2
        · rw [twinTok_a l i (k + 1) (by omega) (by omega), hnx, if_pos hik]
          subst hik; rw [List.take_length]; rfl
    · rw [twinTok_b l i k (by omega)]
      repeat' first | refine .seq ?_ | refine .rg ?_ | refine .rd ?_ | refine .block ?_ | refine .scope ?_ | refine .skip ?_ | refine .label ?_ | refine .exit ?_ | refine .ret ?_ | refine .ct ?_ | refine .cf ?_ | refine .cy ?_ | refine .cn ?_ | (refine .cond rfl ?_ ?_ <;> intro hc) | refine A.nil_seq ?_ | refine .nl ?_ | refine .dd ?_ | refine .ys ?_ | refine .no ?_ | (refine A.guard rfl ?_ ?_ <;> intro hc) | refine .lb ?_ | refine .ln ?_ | refine .ls ?_ | refine .pv ?_ | refine .ix ?_ | refine .pt ?_ | refine .pf ?_ | refine .bx ?_ | refine .al ?_ | refine .st ?_ | refine .ad ?_ | refine .sb ?_ | refine .mf ?_ | refine .cl ?_ | refine .cw ?_ | refine .ck ?_ | fail
      change HCode _ _ _ _ _ _ _
      refine HCode.turnB 0 1 rfl rfl (Turn.vadopt (z := 4) rfl rfl rfl) rfl ?_
      refine HCode.loop (fun n s σ => ∃ j : Nat, n = l[k].rows.length - j ∧ j ≤ l[k].rows.length ∧ σ = ⟨[.cells [.str l[k].name, .vec 1 4 j 0 j]], [.vec (twinPre l i k)] ++ [.vec ((l[k].rows.take j).map Row.enc)]⟩ ∧
        s = [(20, .int .i64 j), (19, .int .i64 l[k].rows.length), (18, .slice (l[k].rows.map Row.enc) .no), (11, .int .i64 k), (10, .int .i64 l.length), (9, Tbls.enc l), (3, .vec 0 2 k 0 k), (5, .ptr 0 0)])
        (s0 := [(20, .int .i64 (0 : Nat)), (19, .int .i64 l[k].rows.length), (18, .slice (l[k].rows.map Row.enc) .no), (11, .int .i64 k), (10, .int .i64 l.length), (9, Tbls.enc l), (3, .vec 0 2 k 0 k), (5, .ptr 0 0)])
        ⟨rfl, rfl, rfl, rfl, rfl, rfl, rfl, rfl, trivial⟩ ⟨0, rfl, Nat.zero_le _, rfl, rfl⟩ ?_
      rintro n s σ ⟨j, rfl, hj, rfl, rfl⟩
      have hjl : ((l[k].rows.take j).map Row.enc).length = j := by simp; omega
      by_cases h2 : j < l[k].rows.length
      · have d2 : decide ((j : Int) < (l[k].rows.length : Int)) = true := by simp [h2]
        have x2 := map_get' (f := Row.enc) h2
        have ht := twin l[k].rows[j] (hcl _ (List.getElem_mem h1) _ (List.getElem_mem h2))
        repeat' first | refine .seq ?_ | refine .rg ?_ | refine .rd ?_ | refine .block ?_ | refine .scope ?_ | refine .skip ?_ | refine .label ?_ | refine .exit ?_ | refine .ret ?_ | refine .ct ?_ | refine .cf ?_ | refine .cy ?_ | refine .cn ?_ | (refine .cond rfl ?_ ?_ <;> intro hc) | refine A.nil_seq ?_ | refine .nl ?_ | refine .dd ?_ | refine .ys ?_ | refine .no ?_ | (refine A.guard rfl ?_ ?_ <;> intro hc) | refine .lb ?_ | refine .ln ?_ | refine .ls ?_ | refine .pv ?_ | refine .ix ?_ | refine .pt ?_ | refine .pf ?_ | refine .bx ?_ | refine .al ?_ | refine .st ?_ | refine .ad ?_ | refine .sb ?_ | refine .mf ?_ | refine .cl ?_ | refine .cw ?_ | refine .ck ?_ | refine A.call rfl ht (WeakL.refl _) ?_ | refine A.vappend (m := j + 1) rfl rfl rfl rfl rfl rfl rfl rfl hjl rfl rfl (by dsimp only; omega) (by omega) rfl ?_ | fail
        refine ⟨l[k].rows.length - (j + 1), by omega, [(20, .int .i64 ((j + 1 : Nat) : Int)), (19, .int .i64 l[k].rows.length), (18, .slice (l[k].rows.map Row.enc) .no), (11, .int .i64 k), (10, .int .i64 l.length), (9, Tbls.enc l), (3, .vec 0 2 k 0 k), (5, .ptr 0 0)],
          ⟨rfl, rfl, rfl, rfl, rfl, rfl, rfl, rfl, trivial⟩, by simp [belowS, AV.low, Row.lowL, Tbls.enc, Tbl.lowL], ?_, j + 1, rfl, by omega, ?_, rfl⟩
        · have hp2 := twinPre_low (a := 1) (n := 1 + 1) l i k (by omega)
          have hp4 := Row.lowL 1 (1 + 1) (l[k].rows.take j)
          simp [-List.map_take, belowB, belowT, Ob.low, Tok.low, AV.lowL, AV.low, lowL_append, hp2, hp4, Mem.lowL, Row.lowL]
        · rw [← take_enc h2]; rfl
      · have d2 : decide ((j : Int) < (l[k].rows.length : Int)) = false := by simp; omega
        have hjn : j = l[k].rows.length := by omega
        subst hjn
        have hfl := hjl
        have hcan : (((l[k].rows.take l[k].rows.length).map Row.enc).take l[k].rows.length).drop 0 = l[k].rows.map Row.enc := by rw [List.take_length, List.drop_zero, List.take_of_length_le (by simp)]
        repeat' first | refine HCode.turnB 0 1 rfl rfl ((Turn.freeze rfl hfl rfl).trans (Turn.weak (Weak.no (WeakL.eq hcan)))) rfl ?_ | refine .seq ?_ | refine .rg ?_ | refine .rd ?_ | refine .block ?_ | refine .scope ?_ | refine .skip ?_ | refine .label ?_ | refine .exit ?_ | refine .ret ?_ | refine .ct ?_ | refine .cf ?_ | refine .cy ?_ | refine .cn ?_ | (refine .cond rfl ?_ ?_ <;> intro hc) | refine A.nil_seq ?_ | refine .nl ?_ | refine .dd ?_ | refine .ys ?_ | refine .no ?_ | (refine A.guard rfl ?_ ?_ <;> intro hc) | refine .lb ?_ | refine .ln ?_ | refine .ls ?_ | refine .pv ?_ | refine .ix ?_ | refine .pt ?_ | refine .pf ?_ | refine .bx ?_ | refine .al ?_ | refine .st ?_ | refine .ad ?_ | refine .sb ?_ | refine .mf ?_ | refine .cl ?_ | refine .cw ?_ | refine .ck ?_ | refine A.vappend (m := k + 1) rfl rfl rfl rfl rfl rfl rfl rfl hpl rfl rfl (by dsimp only; omega) (by omega) rfl ?_ | fail
        refine ⟨l.length - (k + 1), by omega, [(11, .int .i64 ((k + 1 : Nat) : Int)), (10, .int .i64 l.length), (9, Tbls.enc l), (3, .vec 0 2 (k + 1) 0 (k + 1))], 0, 1, Nat.zero_le _, (by simp),
          ⟨rfl, rfl, rfl, rfl, trivial⟩, by simp [belowS, AV.low, Tbls.enc, Tbl.lowL], rfl, ?_, k + 1, rfl, by omega, ?_, rfl⟩
        · have hp2 := twinPre_low (a := 0) (n := 1) l i (k + 1) (by omega)
          rw [hnx, if_neg (by omega)] at hp2
          have hp3 : ∀ L : List Row, AV.lowL 0 1 (L.map Row.enc) = true := fun L => Row.lowL 0 1 L
          simp [-List.map_take, belowT, Tok.low, hp3]
          exact hp2
        · rw [twinTok_b l i (k + 1) (by omega), hnx, if_neg (by omega)]
          rfl
  · have d1 : decide ((k : Int) < (l.length : Int)) = false := by simp; omega
    have hka : k = l.length := by omega
    subst hka
    repeat' first | refine .seq ?_ | refine .rg ?_ | refine .rd ?_ | refine .block ?_ | refine .scope ?_ | refine .skip ?_ | refine .label ?_ | refine .exit ?_ | refine .ret ?_ | refine .ct ?_ | refine .cf ?_ | refine .cy ?_ | refine .cn ?_ | (refine .cond rfl ?_ ?_ <;> intro hc) | refine A.nil_seq ?_ | refine .nl ?_ | refine .dd ?_ | refine .ys ?_ | refine .no ?_ | (refine A.guard rfl ?_ ?_ <;> intro hc) | refine .lb ?_ | refine .ln ?_ | refine .ls ?_ | refine .pv ?_ | refine .ix ?_ | refine .pt ?_ | refine .pf ?_ | refine .bx ?_ | refine .al ?_ | refine .st ?_ | refine .ad ?_ | refine .sb ?_ | refine .mf ?_ | refine .cl ?_ | refine .cw ?_ | refine .ck ?_ | fail
    exact ⟨rfl, rfl⟩
theorem twinTok_none (l : List Tbl) : twinTok l l.length l.length = [.vec (l.map Tbl.enc)] := by
  rw [twinTok_b l _ _ (by omega)]; unfold twinPre; simp
theorem twinTok_some (l : List Tbl) (i : Nat) (h : i < l.length) : twinTok l i l.length = [.vec ((l.map Tbl.enc).set i (openT l[i])), .vec (l[i].rows.map Row.enc)] := by
  rw [twinTok_a l _ _ h h]; unfold twinPre; rw [List.getElem?_eq_getElem h]; simp
theorem twinT (l : List Tbl) (hl : l.length ≤ 1048576) (hr : ∀ t ∈ l, t.rows.length ≤ 1048576) (hcl : ∀ t ∈ l, ∀ r ∈ t.rows, r.cols.length ≤ 1048576) : PFn Try.prog 17 [Tbls.enc l] (Tbls.enc l) := by
  refine AFn.plainT (Tbls.closed l) (by simp [AV.closedL, Tbls.closed]) (AFn.mono (twinA l l.length hl hr hcl) ?_)
  rintro e σ ⟨rfl, rfl⟩
  rw [twinTok_none]
  refine ⟨_, _, rfl, (Turn.freeze rfl (by simp) rfl).trans (Turn.weak (Weak.no (WeakL.eq ?_)))⟩
  rw [List.drop_zero, List.take_of_length_le (by simp)]
def fidx {α : Type} (p : α → Bool) : List α → Option Nat
  | [] => none
  | x :: l => if p x then some 0 else (fidx p l).map (· + 1)
theorem fidx_spec {α : Type} (p : α → Bool) : ∀ (l : List α) (k : Nat), (idxFrom p l k = -1 ∧ fidx p l = none) ∨ ∃ (j : Nat) (h : j < l.length), idxFrom p l k = ((k + j : Nat) : Int) ∧ fidx p l = some j ∧ p l[j] = true
  | [], k => .inl ⟨rfl, rfl⟩
  | x :: l, k => by
    by_cases e : p x = true
    · exact .inr ⟨0, by simp, by simp [idxFrom, e], by simp [fidx, e], by simpa using e⟩
    · rcases fidx_spec p l (k + 1) with ⟨h1, h2⟩ | ⟨j, h, h1, h2, h3⟩
      · exact .inl ⟨by simp [idxFrom, e, h1], by simp [fidx, e, h2]⟩
      · exact .inr ⟨j + 1, by simpa using h, by simp [idxFrom, e, h1]; omega, by simp [fidx, e, h2], by simpa using h3⟩
theorem place_spec (name key : Str) : ∀ (l : List Tbl) (k : Nat), (placeFrom name key l k = (-1, -1) ∧ fidx (fun t : Tbl => t.name == name) l = none) ∨
    ∃ (j : Nat) (h : j < l.length), placeFrom name key l k = (((k + j : Nat) : Int), idxFrom (fun r : Row => r.key == key) l[j].rows 0) ∧ fidx (fun t : Tbl => t.name == name) l = some j
  | [], k => .inl ⟨rfl, rfl⟩
  | x :: l, k => by
    by_cases e : (x.name == name) = true
    · exact .inr ⟨0, by simp, by simp only [placeFrom, if_pos e]; simp, by simp [fidx, e]⟩
    · rcases place_spec name key l (k + 1) with ⟨h1, h2⟩ | ⟨j, h, h1, h2⟩
      · exact .inl ⟨by simp only [placeFrom, if_neg e, h1], by simp [fidx, e, h2]⟩
      · refine .inr ⟨j + 1, by simpa using h, ?_, by simp [fidx, e, h2]⟩
        simp only [placeFrom, if_neg e, h1]
        simp
        omega
def modAt {α : Type} (l : List α) (i : Nat) (f : α → α) : List α :=
  match l[i]? with
  | some x => l.set i (f x)
  | none => l
theorem modAt_eq {α : Type} {l : List α} {i : Nat} (h : i < l.length) (f : α → α) : modAt l i f = l.set i (f l[i]) := by
  unfold modAt; rw [List.getElem?_eq_getElem h]
def putRows (rows : List Row) (r : Row) : List Row :=
  match fidx (fun x : Row => x.key == r.key) rows with
  | none => rows ++ [r]
  | some k => rows.set k r
def cutRows (rows : List Row) (key : Str) : List Row :=
  match fidx (fun x : Row => x.key == key) rows with
  | none => rows
  | some k => rows.take k ++ rows.drop (k + 1)
def putG (l : List Tbl) (name : Str) (r : Row) : List Tbl :=
  match fidx (fun t : Tbl => t.name == name) l with
  | none => l ++ [⟨name, [r]⟩]
  | some i => modAt l i fun t => ⟨t.name, putRows t.rows r⟩
def cutG (l : List Tbl) (name key : Str) : List Tbl :=
  match fidx (fun t : Tbl => t.name == name) l with
  | none => l
  | some i => modAt l i fun t => ⟨t.name, cutRows t.rows key⟩
theorem Weak.row1 {name : Str} {xs : List AV} {t : Tk} : WeakL [.agg [.str name, .slice xs t]] [.agg [.str name, .slice xs .no]] := WeakL.cons (Weak.agg (WeakL.cons (Weak.refl _) (WeakL.cons (Weak.no (WeakL.refl _)) (WeakL.refl _)))) (WeakL.refl _)
theorem put (l : List Tbl) (name : Str) (r : Row) (hl : l.length ≤ 1048576) (hr : ∀ t ∈ l, t.rows.length ≤ 1048576) (hcl : ∀ t ∈ l, ∀ r ∈ t.rows, r.cols.length ≤ 1048576) (hrc : r.cols.length ≤ 1048576) :
    PFn Try.prog 7 [Tbls.enc l, .str name, r.enc] (Tbls.enc (putG l name r)) := by
  refine AFn.plainT (Tbls.closed _) (by simp [AV.closedL, Tbls.closed, AV.closed, Row.closed]) (AFn.enter [6] Try.func7 rfl rfl rfl rfl rfl (by decide) ?_)
  have hp := place l name r.key (by omega) (fun t ht => by have := hr t ht; omega)
  have htw := twin r hrc
  have hclo : AV.closedL [Tbls.enc l] = true := by simp [AV.closedL, Tbls.closed]
  rcases place_spec name r.key l 0 with ⟨h1, h2⟩ | ⟨i, hi, h1, h2⟩
  · rw [h1] at hp
    have hn := twinA l l.length hl hr hcl
    rw [twinTok_none] at hn
    have hml : (l.map Tbl.enc).length = l.length := by simp
    have hlow : belowT 0 1 [.vec (l.map Tbl.enc)] = true := by simp [belowT, Tok.low, Tbl.lowL]
    repeat' first | refine A.box_r rfl rfl ?_ | refine .seq ?_ | refine .rg ?_ | refine .rd ?_ | refine .block ?_ | refine .scope ?_ | refine .skip ?_ | refine .label ?_ | refine .exit ?_ | refine .ret ?_ | refine .ct ?_ | refine .cf ?_ | refine .cy ?_ | refine .cn ?_ | (refine .cond rfl ?_ ?_ <;> intro hc) | refine A.nil_seq ?_ | refine .nl ?_ | refine .dd ?_ | refine .ys ?_ | refine .no ?_ | (refine A.guard rfl ?_ ?_ <;> intro hc) | refine .lb ?_ | refine .ln ?_ | refine .ls ?_ | refine .pv ?_ | refine .ix ?_ | refine .pt ?_ | refine .pf ?_ | refine .bx ?_ | refine .al ?_ | refine .st ?_ | refine .ad ?_ | refine .sb ?_ | refine .mf ?_ | refine .cl ?_ | refine .cw ?_ | refine .ck ?_ | refine A.callN rfl rfl hn hclo (WeakL.refl _) rfl hlow ?_ | refine A.call rfl hp (WeakL.refl _) ?_ | refine A.call rfl htw (WeakL.refl _) ?_ | refine A.vappend (m := l.length + 1) rfl rfl rfl rfl rfl rfl rfl rfl hml rfl rfl (by dsimp only; omega) (by omega) rfl ?_ | fail
    refine ⟨_, _, rfl, (Turn.freeze rfl (by simp) rfl).trans (Turn.weak (Weak.no ?_))⟩
    have e : putG l name r = l ++ [⟨name, [r]⟩] := by unfold putG; rw [h2]
    rw [e, List.drop_zero, List.take_of_length_le (by simp), List.map_append]
    exact WeakL.app (WeakL.refl _) Weak.row1
  · rw [h1] at hp
    simp only [Nat.zero_add] at hp
    have hn := twinA l i hl hr hcl
    rw [twinTok_some l i hi] at hn
    have hml : ((l.map Tbl.enc).set i (openT l[i])).length = l.length := by simp
    have hlow : belowT 0 2 [.vec ((l.map Tbl.enc).set i (openT l[i])), .vec (l[i].rows.map Row.enc)] = true := by
      have h3 := twinPre_low (a := 0) (n := 2) l i l.length (by omega)
      have h4 : twinPre l i l.length = (l.map Tbl.enc).set i (openT l[i]) := by unfold twinPre; rw [List.getElem?_eq_getElem hi]; simp
      rw [h4] at h3
      simp [belowT, Tok.low, Row.lowL, h3]
    have hx : ((l.map Tbl.enc).set i (openT l[i]))[i]? = some (openT l[i]) := by simp [hi]
    have hlt0 : i < l.length - 0 := hi
    have hrl : (l[i].rows.map Row.enc).length = l[i].rows.length := by simp
    have hri := hr _ (List.getElem_mem hi)
    have d0 : decide ((i : Int) < 0) = false := by simp
    have e : putG l name r = l.set i ⟨l[i].name, putRows l[i].rows r⟩ := by unfold putG; rw [h2]; exact modAt_eq hi _
    rcases fidx_spec (fun x : Row => x.key == r.key) l[i].rows 0 with ⟨h3, h4⟩ | ⟨k, hk, h3, h4, h5⟩
    · rw [h3] at hp
      repeat' first | refine A.box_r rfl rfl ?_ | refine .seq ?_ | refine .rg ?_ | refine .rd ?_ | refine .block ?_ | refine .scope ?_ | refine .skip ?_ | refine .label ?_ | refine .exit ?_ | refine .ret ?_ | refine .ct ?_ | refine .cf ?_ | refine .cy ?_ | refine .cn ?_ | (refine .cond rfl ?_ ?_ <;> intro hc) | refine A.nil_seq ?_ | refine .nl ?_ | refine .dd ?_ | refine .ys ?_ | refine .no ?_ | (refine A.guard rfl ?_ ?_ <;> intro hc) | refine .lb ?_ | refine .ln ?_ | refine .ls ?_ | refine .pv ?_ | refine .ix ?_ | refine .pt ?_ | refine .pf ?_ | refine .bx ?_ | refine .al ?_ | refine .st ?_ | refine .ad ?_ | refine .sb ?_ | refine .mf ?_ | refine .cl ?_ | refine .cw ?_ | refine .ck ?_ | refine A.callN rfl rfl hn hclo (WeakL.refl _) rfl hlow ?_ | refine A.call rfl hp (WeakL.refl _) ?_ | refine A.call rfl htw (WeakL.refl _) ?_ | refine A.vindex rfl rfl rfl rfl rfl rfl rfl (by assumption) (Nat.zero_add _) ?_ | refine A.vfield rfl rfl rfl rfl rfl rfl ?_ | refine A.vload rfl rfl rfl (by assumption) (by assumption) rfl ?_ | refine A.vlen rfl rfl rfl rfl ?_ | refine A.vappend (m := l[i].rows.length + 1) rfl rfl rfl rfl rfl rfl rfl rfl hrl rfl rfl (by dsimp only; omega) (by omega) rfl ?_ | refine A.vstore (agg := true) rfl rfl rfl rfl rfl hml hx rfl rfl rfl rfl ?_ | fail
      have hpr : putRows l[i].rows r = l[i].rows ++ [r] := by unfold putRows; rw [h4]
      refine ⟨_, _, rfl, (Turn.inner (k := 0) (i := i) (c := 1) rfl (by simp [hi]; rfl) rfl (Turn.freeze rfl (by simp) rfl) rfl rfl).trans ((Turn.freeze rfl (by simp) rfl).trans (Turn.weak (Weak.no (WeakL.eq ?_))))⟩
      rw [e, hpr, List.drop_zero, List.take_of_length_le (by simp), List.set_set, List.set_set, List.map_set]
      congr 1
      simp only [Tbl.enc, List.set_cons_succ, List.set_cons_zero, List.drop_zero, List.map_append, List.map_cons, List.map_nil]
      rw [List.take_of_length_le (by simp)]
      rfl
    · rw [h3] at hp
      simp only [Nat.zero_add] at hp
      have hlt1 : k < l[i].rows.length - 0 := hk
      have x2 := map_get' (f := Row.enc) hk
      have d1 : decide ((k : Int) < 0) = false := by simp
      have hpr : putRows l[i].rows r = l[i].rows.set k r := by unfold putRows; rw [h4]
      repeat' first | refine A.box_r rfl rfl ?_ | refine .seq ?_ | refine .rg ?_ | refine .rd ?_ | refine .block ?_ | refine .scope ?_ | refine .skip ?_ | refine .label ?_ | refine .exit ?_ | refine .ret ?_ | refine .ct ?_ | refine .cf ?_ | refine .cy ?_ | refine .cn ?_ | (refine .cond rfl ?_ ?_ <;> intro hc) | refine A.nil_seq ?_ | refine .nl ?_ | refine .dd ?_ | refine .ys ?_ | refine .no ?_ | (refine A.guard rfl ?_ ?_ <;> intro hc) | refine .lb ?_ | refine .ln ?_ | refine .ls ?_ | refine .pv ?_ | refine .ix ?_ | refine .pt ?_ | refine .pf ?_ | refine .bx ?_ | refine .al ?_ | refine .st ?_ | refine .ad ?_ | refine .sb ?_ | refine .mf ?_ | refine .cl ?_ | refine .cw ?_ | refine .ck ?_ | refine A.callN rfl rfl hn hclo (WeakL.refl _) rfl hlow ?_ | refine A.call rfl hp (WeakL.refl _) ?_ | refine A.call rfl htw (WeakL.refl _) ?_ | refine A.vindex rfl rfl rfl rfl rfl rfl rfl (by assumption) (Nat.zero_add _) ?_ | refine A.vfield rfl rfl rfl rfl rfl rfl ?_ | refine A.vload rfl rfl rfl (by assumption) (by assumption) rfl ?_ | refine A.vlen rfl rfl rfl rfl ?_ | refine A.vstore (agg := true) rfl rfl rfl rfl rfl hrl x2 rfl rfl rfl rfl ?_ | fail
      refine ⟨_, _, rfl, (Turn.inner (k := 0) (i := i) (c := 1) rfl hx rfl (Turn.freeze rfl (by simp) rfl) rfl rfl).trans ((Turn.freeze rfl (by simp) rfl).trans (Turn.weak (Weak.no (WeakL.eq ?_))))⟩
      rw [e, hpr, List.drop_zero, List.take_of_length_le (by simp), List.set_set, List.map_set]
      congr 1
      simp only [Tbl.enc, List.set_cons_succ, List.set_cons_zero, List.drop_zero, List.map_set]
      rw [List.take_of_length_le (by simp)]
      rfl
def rowZero : AV := .agg [.str [], .str [], .slice [] .nil, .bool false]
def delAV (xs : List AV) (i : Nat) : List AV := (xs.take i ++ xs.drop (i + 1) ++ xs.drop (xs.length - 1)).take (xs.length - 1) ++ [rowZero] ++ (xs.take i ++ xs.drop (i + 1) ++ xs.drop (xs.length - 1)).drop xs.length
theorem delAV_take (xs : List AV) (i : Nat) (h : i < xs.length) : (delAV xs i).take (xs.length - 1) = xs.take i ++ xs.drop (i + 1) := by
  have h1 : (xs.take i ++ xs.drop (i + 1)).length = xs.length - 1 := by simp; omega
  unfold delAV
  rw [List.append_assoc, List.take_append_of_le_length (by simp; omega), List.take_take, Nat.min_self, List.take_append_of_le_length (by omega), List.take_of_length_le (by omega)]
theorem closedL_iff : ∀ (xs : List AV), AV.closedL xs = true ↔ ∀ x ∈ xs, x.closed = true
  | [] => by simp [AV.closedL]
  | x :: xs => by simp [AV.closedL, closedL_iff xs]
theorem delAV_closed (xs : List AV) (i : Nat) (h : AV.closedL xs = true) : AV.closedL (delAV xs i) = true := by
  rw [closedL_iff] at h ⊢
  intro x hx
  unfold delAV at hx
  simp only [List.mem_append, List.mem_singleton] at hx
  rcases hx with (hx | rfl) | hx
  · have := List.mem_of_mem_take hx
    simp only [List.mem_append] at this
    rcases this with (this | this) | this
    · exact h x (List.mem_of_mem_take this)
    · exact h x (List.mem_of_mem_drop this)
    · exact h x (List.mem_of_mem_drop this)
  · rfl
  · have := List.mem_of_mem_drop hx
    simp only [List.mem_append] at this
    rcases this with (this | this) | this
    · exact h x (List.mem_of_mem_take this)
    · exact h x (List.mem_of_mem_drop this)
    · exact h x (List.mem_of_mem_drop this)
theorem delete (xs : List AV) (n i : Nat) (hn : xs.length = n) (hi : i < n) (hb : n ≤ 1048576) :
    AFn Try.prog 34 [.vec 0 4 n 0 n, .int .i64 i, .int .i64 ((i + 1 : Nat) : Int)] ⟨[], [.vec xs]⟩ (fun e σ => e = .ret (.vec 0 4 n 0 (n - 1)) ∧ σ = ⟨[], [.vec (delAV xs i)]⟩) := by
  refine AFn.enter [6] Try.func34 rfl rfl rfl rfl rfl (by decide) ?_
  have d1 : ((i : Int) == ((i + 1 : Nat) : Int)) = false := by simp; omega
  have hm : i + (n - (i + 1)) = n - 1 := by omega
  repeat' first | refine .seq ?_ | refine .rg ?_ | refine .rd ?_ | refine .block ?_ | refine .scope ?_ | refine .skip ?_ | refine .label ?_ | refine .exit ?_ | refine .ret ?_ | refine .ct ?_ | refine .cf ?_ | refine .cy ?_ | refine .cn ?_ | (refine .cond rfl ?_ ?_ <;> intro hc) | refine A.nil_seq ?_ | refine .nl ?_ | refine .dd ?_ | refine .ys ?_ | refine .no ?_ | (refine A.guard rfl ?_ ?_ <;> intro hc) | refine .lb ?_ | refine .ln ?_ | refine .ls ?_ | refine .pv ?_ | refine .ix ?_ | refine .pt ?_ | refine .pf ?_ | refine .bx ?_ | refine .al ?_ | refine .st ?_ | refine .ad ?_ | refine .sb ?_ | refine .mf ?_ | refine .cl ?_ | refine .cw ?_ | refine .ck ?_ | refine A.slice3 i (i + 1) n rfl rfl rfl rfl rfl rfl rfl rfl rfl rfl (by omega) (by omega) (by omega) ?_ | refine A.vlen rfl rfl rfl rfl ?_ | refine A.vslice 0 i (rl := 0) (rh := i) rfl rfl rfl rfl rfl rfl rfl rfl rfl (Nat.zero_le _) (by omega) rfl (Nat.zero_add _) ?_ | refine A.vslice (i + 1) n (rl := i + 1) (rh := n) rfl rfl rfl rfl rfl rfl rfl rfl rfl (by omega) (by omega) (Nat.zero_add _) (Nat.zero_add _) ?_ | refine A.vshift (i := i) (j := i + 1) (m := n - 1) rfl rfl rfl rfl rfl rfl rfl rfl hn (by omega) (by omega) hm rfl ?_ | refine A.vslice (n - 1) n (rl := n - 1) (rh := n) rfl rfl rfl rfl rfl rfl rfl rfl rfl (by omega) (by omega) (Nat.zero_add _) (Nat.zero_add _) ?_ | refine A.vclear rfl rfl rfl rfl rfl rfl rfl (by simp; omega) rfl ?_ | fail
  refine ⟨rfl, ?_⟩
  subst hn
  have h1 : xs.length - (xs.length - 1) = 1 := by omega
  dsimp only
  rw [h1]
  rfl
theorem cut (l : List Tbl) (name key : Str) (hl : l.length ≤ 1048576) (hr : ∀ t ∈ l, t.rows.length ≤ 1048576) (hcl : ∀ t ∈ l, ∀ r ∈ t.rows, r.cols.length ≤ 1048576) :
    PFn Try.prog 31 [Tbls.enc l, .str name, .str key] (Tbls.enc (cutG l name key)) := by
  refine AFn.plainT (Tbls.closed _) (by simp [AV.closedL, Tbls.closed, AV.closed]) (AFn.enter [6] Try.func31 rfl rfl rfl rfl rfl (by decide) ?_)
  have hp := place l name key (by omega) (fun t ht => by have := hr t ht; omega)
  have hclo : AV.closedL [Tbls.enc l] = true := by simp [AV.closedL, Tbls.closed]
  rcases place_spec name key l 0 with ⟨h1, h2⟩ | ⟨i, hi, h1, h2⟩
  · rw [h1] at hp
    have hn := twinA l l.length hl hr hcl
    rw [twinTok_none] at hn
    have hlow : belowT 0 1 [.vec (l.map Tbl.enc)] = true := by simp [belowT, Tok.low, Tbl.lowL]
    have e : cutG l name key = l := by unfold cutG; rw [h2]
    rw [e]
    repeat' first | refine .seq ?_ | refine .rg ?_ | refine .rd ?_ | refine .block ?_ | refine .scope ?_ | refine .skip ?_ | refine .label ?_ | refine .exit ?_ | refine .ret ?_ | refine .ct ?_ | refine .cf ?_ | refine .cy ?_ | refine .cn ?_ | (refine .cond rfl ?_ ?_ <;> intro hc) | refine A.nil_seq ?_ | refine .nl ?_ | refine .dd ?_ | refine .ys ?_ | refine .no ?_ | (refine A.guard rfl ?_ ?_ <;> intro hc) | refine .lb ?_ | refine .ln ?_ | refine .ls ?_ | refine .pv ?_ | refine .ix ?_ | refine .pt ?_ | refine .pf ?_ | refine .bx ?_ | refine .al ?_ | refine .st ?_ | refine .ad ?_ | refine .sb ?_ | refine .mf ?_ | refine .cl ?_ | refine .cw ?_ | refine .ck ?_ | refine A.callN rfl rfl hn hclo (WeakL.refl _) rfl hlow ?_ | refine A.call rfl hp (WeakL.refl _) ?_ | fail
    refine ⟨_, _, rfl, (Turn.freeze rfl (by simp) rfl).trans (Turn.weak (Weak.no (WeakL.eq ?_)))⟩
    rw [List.drop_zero, List.take_of_length_le (by simp)]
  · rw [h1] at hp
    simp only [Nat.zero_add] at hp
    have hn := twinA l i hl hr hcl
    rw [twinTok_some l i hi] at hn
    have hml : ((l.map Tbl.enc).set i (openT l[i])).length = l.length := by simp
    have hlow : belowT 0 2 [.vec ((l.map Tbl.enc).set i (openT l[i])), .vec (l[i].rows.map Row.enc)] = true := by
      have h3 := twinPre_low (a := 0) (n := 2) l i l.length (by omega)
      have h4 : twinPre l i l.length = (l.map Tbl.enc).set i (openT l[i]) := by unfold twinPre; rw [List.getElem?_eq_getElem hi]; simp
      rw [h4] at h3
      simp [belowT, Tok.low, Row.lowL, h3]
    have hx : ((l.map Tbl.enc).set i (openT l[i]))[i]? = some (openT l[i]) := by simp [hi]
    have hlt0 : i < l.length - 0 := hi
    have hrl : (l[i].rows.map Row.enc).length = l[i].rows.length := by simp
    have hri := hr _ (List.getElem_mem hi)
    have e : cutG l name key = l.set i ⟨l[i].name, cutRows l[i].rows key⟩ := by unfold cutG; rw [h2]; exact modAt_eq hi _
    rcases fidx_spec (fun x : Row => x.key == key) l[i].rows 0 with ⟨h3, h4⟩ | ⟨k, hk, h3, h4, h5⟩
    · rw [h3] at hp
      have hpr : cutRows l[i].rows key = l[i].rows := by unfold cutRows; rw [h4]
      repeat' first | refine .seq ?_ | refine .rg ?_ | refine .rd ?_ | refine .block ?_ | refine .scope ?_ | refine .skip ?_ | refine .label ?_ | refine .exit ?_ | refine .ret ?_ | refine .ct ?_ | refine .cf ?_ | refine .cy ?_ | refine .cn ?_ | (refine .cond rfl ?_ ?_ <;> intro hc) | refine A.nil_seq ?_ | refine .nl ?_ | refine .dd ?_ | refine .ys ?_ | refine .no ?_ | (refine A.guard rfl ?_ ?_ <;> intro hc) | refine .lb ?_ | refine .ln ?_ | refine .ls ?_ | refine .pv ?_ | refine .ix ?_ | refine .pt ?_ | refine .pf ?_ | refine .bx ?_ | refine .al ?_ | refine .st ?_ | refine .ad ?_ | refine .sb ?_ | refine .mf ?_ | refine .cl ?_ | refine .cw ?_ | refine .ck ?_ | refine A.callN rfl rfl hn hclo (WeakL.refl _) rfl hlow ?_ | refine A.call rfl hp (WeakL.refl _) ?_ | refine A.vindex rfl rfl rfl rfl rfl rfl rfl (by assumption) (Nat.zero_add _) ?_ | refine A.vfield rfl rfl rfl rfl rfl rfl ?_ | refine A.vload rfl rfl rfl (by assumption) (by assumption) rfl ?_ | refine A.vlen rfl rfl rfl rfl ?_ | fail
      refine ⟨_, _, rfl, (Turn.inner (k := 0) (i := i) (c := 1) rfl hx rfl (Turn.freeze rfl (by simp) rfl) rfl rfl).trans ((Turn.freeze rfl (by simp) rfl).trans (Turn.weak (Weak.no (WeakL.eq ?_))))⟩
      rw [e, hpr, List.drop_zero, List.take_of_length_le (by simp), List.set_set, List.map_set]
      congr 1
      simp only [Tbl.enc, List.set_cons_succ, List.set_cons_zero, List.drop_zero]
      rw [List.take_of_length_le (by simp)]
    · rw [h3] at hp
      simp only [Nat.zero_add] at hp
      have hpr : cutRows l[i].rows key = l[i].rows.take k ++ l[i].rows.drop (k + 1) := by unfold cutRows; rw [h4]
      have d1 : decide ((0 : Int) ≤ (k : Int)) = true := by simp
      have hdel := delete (l[i].rows.map Row.enc) l[i].rows.length k hrl hk hri
      have hxc : AV.closedL (l[i].rows.map Row.enc) = true := Row.closedL _
      have hyc := delAV_closed (l[i].rows.map Row.enc) k hxc
      have hdl : (delAV (l[i].rows.map Row.enc) k).length = l[i].rows.length := by unfold delAV; simp; omega
      repeat' first | refine .seq ?_ | refine .rg ?_ | refine .rd ?_ | refine .block ?_ | refine .scope ?_ | refine .skip ?_ | refine .label ?_ | refine .exit ?_ | refine .ret ?_ | refine .ct ?_ | refine .cf ?_ | refine .cy ?_ | refine .cn ?_ | (refine .cond rfl ?_ ?_ <;> intro hc) | refine A.nil_seq ?_ | refine .nl ?_ | refine .dd ?_ | refine .ys ?_ | refine .no ?_ | (refine A.guard rfl ?_ ?_ <;> intro hc) | refine .lb ?_ | refine .ln ?_ | refine .ls ?_ | refine .pv ?_ | refine .ix ?_ | refine .pt ?_ | refine .pf ?_ | refine .bx ?_ | refine .al ?_ | refine .st ?_ | refine .ad ?_ | refine .sb ?_ | refine .mf ?_ | refine .cl ?_ | refine .cw ?_ | refine .ck ?_ | refine A.callN rfl rfl hn hclo (WeakL.refl _) rfl hlow ?_ | refine A.call rfl hp (WeakL.refl _) ?_ | refine A.vindex rfl rfl rfl rfl rfl rfl rfl (by assumption) (Nat.zero_add _) ?_ | refine A.vfield rfl rfl rfl rfl rfl rfl ?_ | refine A.vload rfl rfl rfl (by assumption) (by assumption) rfl ?_ | refine A.vlen rfl rfl rfl rfl ?_ | refine A.callV 1 rfl hdel rfl rfl hxc hyc rfl (WeakL.refl _) rfl rfl ?_ | refine A.vstore (agg := true) rfl rfl rfl rfl rfl hml hx rfl rfl rfl rfl ?_ | fail
      have htk := delAV_take (l[i].rows.map Row.enc) k (by simpa using hk)
      rw [hrl] at htk
      refine ⟨_, _, rfl, (Turn.inner (k := 0) (i := i) (c := 1) rfl (by simp [hi]; rfl) rfl (Turn.freeze rfl hdl rfl) rfl rfl).trans ((Turn.freeze rfl (by simp) rfl).trans (Turn.weak (Weak.no (WeakL.eq ?_))))⟩
      rw [e, hpr, List.drop_zero, List.take_of_length_le (by simp), List.set_set, List.set_set, List.map_set]
      congr 1
      simp only [Tbl.enc, List.set_cons_succ, List.set_cons_zero, List.drop_zero, htk, List.map_append, List.map_take, List.map_drop]
theorem cloneMV (l : List Mem) (h : l.length ≤ 1048576) : AFn Try.prog 29 [.slice (l.map Mem.enc) .no] ⟨[], []⟩ (fun e σ => e = .ret (.vec 0 6 l.length 0 l.length) ∧ σ = ⟨[], [.vec (l.map Mem.enc)]⟩) := by
  have hl : (l.map Mem.enc).length = l.length := List.length_map ..
  refine AFn.turned (AFn.enter [2] Try.func29 rfl rfl rfl rfl rfl (by decide) ?_)
  refine HCode.split_nil 0 rfl (fun hn => ?_) ?_
  · have hl0 : l = [] := by cases l with | nil => rfl | cons _ _ => cases hn
    subst hl0
    repeat' first | refine .seq ?_ | refine .rg ?_ | refine .rd ?_ | refine .block ?_ | refine .scope ?_ | refine .skip ?_ | refine .label ?_ | refine .exit ?_ | refine .ret ?_ | refine .ct ?_ | refine .cf ?_ | refine .cy ?_ | refine .cn ?_ | (refine .cond rfl ?_ ?_ <;> intro hc) | refine A.nil_seq ?_ | refine .nl ?_ | refine .dd ?_ | refine .ys ?_ | refine .no ?_ | (refine A.guard rfl ?_ ?_ <;> intro hc) | refine .lb ?_ | refine .ln ?_ | refine .ls ?_ | refine .pv ?_ | refine .ix ?_ | refine .pt ?_ | refine .pf ?_ | refine .bx ?_ | refine .al ?_ | refine .st ?_ | refine .ad ?_ | refine .sb ?_ | refine .mf ?_ | refine .cl ?_ | refine .cw ?_ | refine .ck ?_ | refine A.isnil rfl rfl rfl ?_ | fail
    exact ⟨_, rfl, Turn.vadopt rfl rfl rfl⟩
  · repeat' first | refine .seq ?_ | refine .rg ?_ | refine .rd ?_ | refine .block ?_ | refine .scope ?_ | refine .skip ?_ | refine .label ?_ | refine .exit ?_ | refine .ret ?_ | refine .ct ?_ | refine .cf ?_ | refine .cy ?_ | refine .cn ?_ | (refine .cond rfl ?_ ?_ <;> intro hc) | refine A.nil_seq ?_ | refine .nl ?_ | refine .dd ?_ | refine .ys ?_ | refine .no ?_ | (refine A.guard rfl ?_ ?_ <;> intro hc) | refine .lb ?_ | refine .ln ?_ | refine .ls ?_ | refine .pv ?_ | refine .ix ?_ | refine .pt ?_ | refine .pf ?_ | refine .bx ?_ | refine .al ?_ | refine .st ?_ | refine .ad ?_ | refine .sb ?_ | refine .mf ?_ | refine .cl ?_ | refine .cw ?_ | refine .ck ?_ | refine A.notnil rfl rfl rfl ?_ | refine A.vappend_new (m := l.length) rfl rfl rfl rfl rfl rfl rfl rfl (Mem.fitsAll l) hl (by dsimp only; omega) (by omega) rfl ?_ | fail
    exact ⟨_, rfl, Turn.refl _ _⟩
theorem indexMem (l : List Mem) (f : FuncId) (c : AV) (p : Mem → Bool) (hl : l.length ≤ 9223372036854775807) (hcl : c.closed = true) (hf : ∀ x ∈ l, PFn Try.prog f [x.enc, c] (.bool (p x))) :
    PFn Try.prog 36 [.slice (l.map Mem.enc) .no, .fn (.func f) [] [c]] (.int .i64 (idxFrom p l 0)) := by
  refine AFn.plain rfl (by simp [AV.closed, AV.closedL, Mem.closedL, hcl]) (AFn.enter [4] Try.func36 rfl rfl rfl rfl rfl (by decide) ?_)
  repeat' first | refine .seq ?_ | refine .rg ?_ | refine .rd ?_ | refine .block ?_ | refine .scope ?_ | refine .skip ?_ | refine .label ?_ | refine .exit ?_ | refine .ret ?_ | refine .ct ?_ | refine .cf ?_ | refine .cy ?_ | refine .cn ?_ | (refine .cond rfl ?_ ?_ <;> intro hc) | refine A.nil_seq ?_ | refine .nl ?_ | refine .dd ?_ | refine .ys ?_ | refine .no ?_ | (refine A.guard rfl ?_ ?_ <;> intro hc) | refine .lb ?_ | refine .ln ?_ | refine .ls ?_ | refine .pv ?_ | refine .ix ?_ | refine .pt ?_ | refine .pf ?_ | refine .bx ?_ | refine .al ?_ | refine .st ?_ | refine .ad ?_ | refine .sb ?_ | refine .mf ?_ | refine .cl ?_ | refine .cw ?_ | refine .ck ?_ | fail
  change HCode _ _ _ _ _ _ _
  refine HCode.loop (fun n s σ => ∃ k : Nat, n = l.length - k ∧ k ≤ l.length ∧ idxFrom p l 0 = idxFrom p (l.drop k) k ∧ σ = ⟨[], []⟩ ∧
    s = [(8, .int .i64 k), (7, .int .i64 l.length), (0, .slice (l.map Mem.enc) .no), (1, .fn (.func f) [] [c])])
    (s0 := [(8, .int .i64 (0 : Nat)), (7, .int .i64 l.length), (0, .slice (l.map Mem.enc) .no), (1, .fn (.func f) [] [c])])
    ⟨rfl, rfl, rfl, rfl, trivial⟩ ⟨0, rfl, Nat.zero_le _, rfl, rfl, rfl⟩ ?_
  rintro n s σ ⟨k, rfl, hk, hp, rfl, rfl⟩
  by_cases h1 : k < l.length
  · have d1 : decide ((k : Int) < (l.length : Int)) = true := by simp [h1]
    have x1 := map_get' (f := Mem.enc) h1
    have hcc := hf l[k] (List.getElem_mem h1)
    repeat' first | refine .seq ?_ | refine .rg ?_ | refine .rd ?_ | refine .block ?_ | refine .scope ?_ | refine .skip ?_ | refine .label ?_ | refine .exit ?_ | refine .ret ?_ | refine .ct ?_ | refine .cf ?_ | refine .cy ?_ | refine .cn ?_ | (refine .cond rfl ?_ ?_ <;> intro hc) | refine A.nil_seq ?_ | refine .nl ?_ | refine .dd ?_ | refine .ys ?_ | refine .no ?_ | (refine A.guard rfl ?_ ?_ <;> intro hc) | refine .lb ?_ | refine .ln ?_ | refine .ls ?_ | refine .pv ?_ | refine .ix ?_ | refine .pt ?_ | refine .pf ?_ | refine .bx ?_ | refine .al ?_ | refine .st ?_ | refine .ad ?_ | refine .sb ?_ | refine .mf ?_ | refine .cl ?_ | refine .cw ?_ | refine .ck ?_ | refine A.callw rfl rfl hcc (WeakL.refl _) ?_ | fail
    · refine Fin.ret1 rfl (Weak.eq ?_)
      rw [hp, idxFrom_drop h1, if_pos hc]
    · refine ⟨l.length - (k + 1), by omega, [(8, .int .i64 ((k + 1 : Nat) : Int)), (7, .int .i64 l.length), (0, .slice (l.map Mem.enc) .no), (1, .fn (.func f) [] [c])],
        ⟨rfl, rfl, rfl, rfl, trivial⟩, by simp [belowS, AV.low, AV.lowL, Mem.lowL, AV.low_of_closed _ _ _ hcl], rfl, k + 1, rfl, by omega, by rw [hp, idxFrom_drop h1, if_neg (by simp [hc])], rfl, rfl⟩
  · have d1 : decide ((k : Int) < (l.length : Int)) = false := by simp; omega
    repeat' first | refine .seq ?_ | refine .rg ?_ | refine .rd ?_ | refine .block ?_ | refine .scope ?_ | refine .skip ?_ | refine .label ?_ | refine .exit ?_ | refine .ret ?_ | refine .ct ?_ | refine .cf ?_ | refine .cy ?_ | refine .cn ?_ | (refine .cond rfl ?_ ?_ <;> intro hc) | refine A.nil_seq ?_ | refine .nl ?_ | refine .dd ?_ | refine .ys ?_ | refine .no ?_ | (refine A.guard rfl ?_ ?_ <;> intro hc) | refine .lb ?_ | refine .ln ?_ | refine .ls ?_ | refine .pv ?_ | refine .ix ?_ | refine .pt ?_ | refine .pf ?_ | refine .bx ?_ | refine .al ?_ | refine .st ?_ | refine .ad ?_ | refine .sb ?_ | refine .mf ?_ | refine .cl ?_ | refine .cw ?_ | refine .ck ?_ | fail
    refine Fin.ret1 rfl (Weak.eq ?_)
    rw [hp, List.drop_eq_nil_of_le (by omega), idxFrom]
theorem setIs (m : Mem) (key : Str) : PFn Try.prog 37 [m.enc, .rptr (.str key)] (.bool (m.name == key)) := by
  refine AFn.plain rfl (by simp [AV.closedL, Mem.closed, AV.closed]) (AFn.enter [3] Try.func37 rfl rfl rfl rfl rfl (by decide) ?_)
  repeat' first | refine .seq ?_ | refine .rg ?_ | refine .rd ?_ | refine .block ?_ | refine .scope ?_ | refine .skip ?_ | refine .label ?_ | refine .exit ?_ | refine .ret ?_ | refine .ct ?_ | refine .cf ?_ | refine .cy ?_ | refine .cn ?_ | (refine .cond rfl ?_ ?_ <;> intro hc) | refine A.nil_seq ?_ | refine .nl ?_ | refine .dd ?_ | refine .ys ?_ | refine .no ?_ | (refine A.guard rfl ?_ ?_ <;> intro hc) | refine .lb ?_ | refine .ln ?_ | refine .ls ?_ | refine .pv ?_ | refine .ix ?_ | refine .pt ?_ | refine .pf ?_ | refine .bx ?_ | refine .al ?_ | refine .st ?_ | refine .ad ?_ | refine .sb ?_ | refine .mf ?_ | refine .cl ?_ | refine .cw ?_ | refine .ck ?_ | fail
  exact Fin.ret1 rfl (Weak.refl _)
def setG (l : List Mem) (name : Str) (v : Val) : List Mem :=
  match fidx (fun m : Mem => m.name == name) l with
  | none => l ++ [.mk name v]
  | some i => modAt l i fun m => .mk m.name v
theorem look_vec {σ : St} {k z n : Nat} {xs : List AV} (hT : σ.T[k]? = some (.vec xs)) (hn : xs.length = n) (hc : AV.closedL xs = true) : Look σ (.vec k z n 0 n) (.slice xs .no) := by
  have h := Look.vec (lo := 0) (hi := n) (z := z) hT hn (LookL.closed (σ := σ) hc)
  rwa [List.drop_zero, List.take_of_length_le (by omega)] at h
theorem set (l : List Mem) (name : Str) (v : Val) (hl : l.length ≤ 1048576) : PFn Try.prog 33 [.slice (l.map Mem.enc) .no, .str name, v.enc] (.slice ((setG l name v).map Mem.enc) .no) := by
  refine AFn.plainT (by simp [AV.closed, Mem.closedL]) (by simp [AV.closedL, AV.closed, Mem.closedL, Val.closed]) (AFn.enter [6] Try.func33 rfl rfl rfl rfl rfl (by decide) ?_)
  have hn := cloneMV l hl
  have hclo : AV.closedL [.slice (l.map Mem.enc) .no] = true := by simp [AV.closedL, AV.closed, Mem.closedL]
  have hlow : belowT 0 1 [.vec (l.map Mem.enc)] = true := by simp [belowT, Tok.low, Mem.lowL]
  have hml : (l.map Mem.enc).length = l.length := by simp
  have hix := indexMem l 37 (.rptr (.str name)) (fun m => m.name == name) (by omega) rfl (fun x _ => setIs x name)
  have hlook : LookL ⟨[], [.vec (l.map Mem.enc)]⟩ [.vec 0 6 l.length 0 l.length, .fn (.func 37) [] [.rptr (.str name)]] [.slice (l.map Mem.enc) .no, .fn (.func 37) [] [.rptr (.str name)]] :=
    LookL.cons (look_vec rfl hml (Mem.closedL l)) (LookL.cons (Look.closed rfl) LookL.nil)
  rcases fidx_spec (fun m : Mem => m.name == name) l 0 with ⟨h3, h4⟩ | ⟨k, hk, h3, h4, h5⟩
  · rw [h3] at hix
    have e : setG l name v = l ++ [.mk name v] := by unfold setG; rw [h4]
    repeat' first | refine A.box_r rfl rfl ?_ | refine .seq ?_ | refine .rg ?_ | refine .rd ?_ | refine .block ?_ | refine .scope ?_ | refine .skip ?_ | refine .label ?_ | refine .exit ?_ | refine .ret ?_ | refine .ct ?_ | refine .cf ?_ | refine .cy ?_ | refine .cn ?_ | (refine .cond rfl ?_ ?_ <;> intro hc) | refine A.nil_seq ?_ | refine .nl ?_ | refine .dd ?_ | refine .ys ?_ | refine .no ?_ | (refine A.guard rfl ?_ ?_ <;> intro hc) | refine .lb ?_ | refine .ln ?_ | refine .ls ?_ | refine .pv ?_ | refine .ix ?_ | refine .pt ?_ | refine .pf ?_ | refine .bx ?_ | refine .al ?_ | refine .st ?_ | refine .ad ?_ | refine .sb ?_ | refine .mf ?_ | refine .cl ?_ | refine .cw ?_ | refine .ck ?_ | refine A.makeFunc rfl rfl ?_ | refine A.callN rfl rfl hn hclo (WeakL.refl _) rfl hlow ?_ | refine A.callB rfl hix hlook rfl ?_ | refine A.vappend (m := l.length + 1) rfl rfl rfl rfl rfl rfl rfl rfl hml rfl rfl (by dsimp only; omega) (by omega) rfl ?_ | fail
    refine ⟨_, _, rfl, (Turn.freeze rfl (by simp) rfl).trans (Turn.weak (Weak.no (WeakL.eq ?_)))⟩
    rw [e, List.drop_zero, List.take_of_length_le (by simp), List.map_append]
    rfl
  · rw [h3] at hix
    simp only [Nat.zero_add] at hix
    have d0 : decide ((k : Int) < 0) = false := by simp
    have hlt : k < l.length - 0 := hk
    have x1 := map_get' (f := Mem.enc) hk
    have e : setG l name v = l.set k (.mk l[k].name v) := by unfold setG; rw [h4]; exact modAt_eq hk _
    repeat' first | refine A.box_r rfl rfl ?_ | refine .seq ?_ | refine .rg ?_ | refine .rd ?_ | refine .block ?_ | refine .scope ?_ | refine .skip ?_ | refine .label ?_ | refine .exit ?_ | refine .ret ?_ | refine .ct ?_ | refine .cf ?_ | refine .cy ?_ | refine .cn ?_ | (refine .cond rfl ?_ ?_ <;> intro hc) | refine A.nil_seq ?_ | refine .nl ?_ | refine .dd ?_ | refine .ys ?_ | refine .no ?_ | (refine A.guard rfl ?_ ?_ <;> intro hc) | refine .lb ?_ | refine .ln ?_ | refine .ls ?_ | refine .pv ?_ | refine .ix ?_ | refine .pt ?_ | refine .pf ?_ | refine .bx ?_ | refine .al ?_ | refine .st ?_ | refine .ad ?_ | refine .sb ?_ | refine .mf ?_ | refine .cl ?_ | refine .cw ?_ | refine .ck ?_ | refine A.makeFunc rfl rfl ?_ | refine A.callN rfl rfl hn hclo (WeakL.refl _) rfl hlow ?_ | refine A.callB rfl hix hlook rfl ?_ | refine A.vindex rfl rfl rfl rfl rfl rfl rfl (by assumption) (Nat.zero_add _) ?_ | refine A.vfield rfl rfl rfl rfl rfl rfl ?_ | refine A.vload rfl rfl rfl (by assumption) (by assumption) rfl ?_ | refine A.vlen rfl rfl rfl rfl ?_ | refine A.vstore (agg := true) rfl rfl rfl rfl rfl hml x1 rfl rfl rfl rfl ?_ | fail
    refine ⟨_, _, rfl, (Turn.freeze rfl (by simp) rfl).trans (Turn.weak (Weak.no (WeakL.eq ?_)))⟩
    rw [e, List.drop_zero, List.take_of_length_le (by simp), List.map_set]
    rfl
end Go.Proofs.Ytegakkonlhmeaaa
