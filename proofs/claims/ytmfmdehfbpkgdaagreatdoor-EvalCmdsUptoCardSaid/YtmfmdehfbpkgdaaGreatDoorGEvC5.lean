/-
  Contracts and plain facts for a law, joined.
-/
import Derived.Test.YtmfmdehfbpkgdaaGreatDoorGEvC2
import Derived.Test.YtmfmdehfbpkgdaaGreatDoorGEvC4
import Derived.Test.YtmfmdehfbpkgdaaGreatDoorAvRen4
import Derived.Test.YtmfmdehfbpkgdaaGreatDoorGEvC1
import Derived.Test.YtmfmdehfbpkgdaaGreatDoorGEvC3
import Derived.Test.YtmfmdehfbpkgdaaGreatDoorAvGo
set_option maxRecDepth 100000
set_option maxHeartbeats 16000000
set_option linter.unusedVariables false
set_option linter.unusedSimpArgs false
set_option linter.unusedSectionVars false
namespace Go.Proofs.YtmfmdehfbpkgdaaGreatDoor
open Go Go.Av
attribute [local irreducible] HCode AOps PFn AFn Av.Step TStep
theorem placeFrom_spec (name key : Str) : ∀ (l : List Tbl) (k : Nat), (placeFrom name key l k = (-1, -1) ∧ l.find? (fun t => t.name == name) = none) ∨
    ∃ (j : Nat) (h : j < l.length), placeFrom name key l k = (((k + j : Nat) : Int), idxFrom (fun r : Row => r.key == key) l[j].rows 0) ∧ l.find? (fun t => t.name == name) = some l[j]
  | [], k => .inl ⟨rfl, rfl⟩
  | x :: l, k => by
    by_cases e : (x.name == name) = true
    · exact .inr ⟨0, by simp, by simp only [placeFrom, if_pos e]; simp, by simp only [List.find?, e]; rfl⟩
    · have e' : (x.name == name) = false := by simpa using e
      rcases placeFrom_spec name key l (k + 1) with ⟨h1, h2⟩ | ⟨j, h, h1, h2⟩
      · exact .inl ⟨by simp only [placeFrom, if_neg e, h1], by simp only [List.find?, e', h2]⟩
      · refine .inr ⟨j + 1, by simpa using h, ?_, by simp only [List.find?, e', h2]; rfl⟩
        simp only [placeFrom, if_neg e, h1]
        simp
        omega
def noRow : Row := ⟨[], [], [], false⟩
def gotNone : Got := ⟨noRow, false, 0⟩
def gotOf (r : Row) : Got := if r.broken then ⟨noRow, false, 10⟩ else ⟨r, true, 0⟩
def findG (l : List Tbl) (n : Need) : Got :=
  match l.find? (fun t => t.name == n.table) with
  | none => gotNone
  | some t => match t.rows.find? (fun r => r.key == n.key) with
    | none => gotNone
    | some r => gotOf r
theorem weak_got {r : Row} {b : Bool} {e : Int} {t : Tk} {cs : List AV} (h : cs = r.cols.map Mem.enc) : Weak (.agg [.str r.key, .str r.typ, .slice cs t, .bool r.broken, .bool b, .int .i64 e]) (Got.enc ⟨r, b, e⟩) := by
  subst h
  exact Weak.agg (WeakL.cons (Weak.refl _) (WeakL.cons (Weak.refl _) (WeakL.cons (Weak.no (WeakL.refl _)) (WeakL.refl _))))
theorem find (l : List Tbl) (n : Need) (hl : l.length ≤ 9223372036854775807) (hr : ∀ t ∈ l, t.rows.length ≤ 9223372036854775807) (hcl : ∀ t ∈ l, ∀ r ∈ t.rows, r.cols.length ≤ 1048576) :
    PFn Tryz.prog 64 [Tbls.enc l, n.enc] (findG l n).enc := by
  refine AFn.plain (Got.closed _) (by simp [AV.closedL, Tbls.closed, Need.closed]) (AFn.eR [.cell 4 113] Tryz.func64 ?_)
  have hp := place l n.table n.key hl hr
  rcases placeFrom_spec n.table n.key l 0 with ⟨h1, h2⟩ | ⟨i, hi, h1, h2⟩
  · rw [h1] at hp
    repeat' first | refine .s1 ?_ | (refine .q ?_ ?_ <;> intro hc) | refine A.call rfl hp (WeakL.refl _) ?_ | fail
    refine FinR.ret1 rfl ?_
    have e : findG l n = gotNone := by rw [findG, h2]
    rw [e]
    exact weak_got (r := noRow) rfl
  · rw [h1] at hp
    simp only [Nat.zero_add] at hp
    rcases idxFrom_spec (fun r : Row => r.key == n.key) l[i].rows 0 with ⟨h3, h4⟩ | ⟨k, hk, h3, h4⟩
    · rw [h3] at hp
      repeat' first | refine .s1 ?_ | (refine .q ?_ ?_ <;> intro hc) | refine A.call rfl hp (WeakL.refl _) ?_ | fail
      refine FinR.ret1 rfl ?_
      have e : findG l n = gotNone := by rw [findG, h2]; simp only [h4]
      rw [e]
      exact weak_got (r := noRow) rfl
    · rw [h3] at hp
      simp only [Nat.zero_add] at hp
      have x1 := map_get' (f := Tbl.enc) hi
      have x2 := map_get' (f := Row.enc) hk
      have d1 : decide ((k : Int) < 0) = false := by simp
      have ht := twin l[i].rows[k] (hcl _ (List.getElem_mem hi) _ (List.getElem_mem hk))
      repeat' first | refine .s1 ?_ | (refine .q ?_ ?_ <;> intro hc) | refine A.call rfl hp (WeakL.refl _) ?_ | refine A.call rfl ht (WeakL.refl _) ?_ | fail
      all_goals refine FinR.ret1 rfl ?_
      · have e : findG l n = ⟨noRow, false, 10⟩ := by rw [findG, h2]; simp only [h4, gotOf]; rw [if_pos hc]
        rw [e]
        exact weak_got (r := noRow) rfl
      · have e : findG l n = ⟨l[i].rows[k], true, 0⟩ := by rw [findG, h2]; simp only [h4, gotOf]; rw [if_neg (by simp [hc])]
        rw [e]
        exact weak_got rfl
def openT (t : Tbl) : AV := .agg [.str t.name, .vec 1 4 t.rows.length 0 t.rows.length]
def twinPre (l : List Tbl) (i k : Nat) : List AV :=
  match l[i]? with
  | some t => ((l.take k).map Tbl.enc).set i (openT t)
  | none => (l.take k).map Tbl.enc
def twinTok (l : List Tbl) (i k : Nat) : List Tok :=
  match l[i]? with
  | some t => if i < k then [.vec (twinPre l i k), .vec (t.rows.map Row.enc)] else [.vec (twinPre l i k)]
  | none => [.vec (twinPre l i k)]
theorem twinPre_len (l : List Tbl) (i k : Nat) (h : k ≤ l.length) : (twinPre l i k).length = k := by
  unfold twinPre; split <;> simp <;> omega
theorem lowL_append {a n : Nat} : ∀ (xs ys : List AV), AV.lowL a n (xs ++ ys) = (AV.lowL a n xs && AV.lowL a n ys)
  | [], ys => by simp [AV.lowL]
  | x :: xs, ys => by rw [List.cons_append, AV.lowL, AV.lowL, lowL_append xs ys, Bool.and_assoc]
theorem twinPre_low {a n : Nat} (l : List Tbl) (i k : Nat) (h : i < k → 1 < n) : AV.lowL a n (twinPre l i k) = true := by
  have hc : ∀ L : List Tbl, AV.lowL a n (L.map Tbl.enc) = true := fun L => Tbl.lowL a n L
  unfold twinPre
  split
  · rename_i t ht
    by_cases hik : i < k
    · have key : ∀ (L : List AV) (j : Nat) (y : AV), AV.lowL a n L = true → y.low a n = true → AV.lowL a n (L.set j y) = true := by
        intro L
        induction L with
        | nil => intro j y h1 h2; exact h1
        | cons b L ih =>
          intro j y h1 h2
          simp only [AV.lowL, Bool.and_eq_true] at h1
          cases j with
          | zero => simp only [List.set_cons_zero, AV.lowL, Bool.and_eq_true]; exact ⟨h2, h1.2⟩
          | succ j => simp only [List.set_cons_succ, AV.lowL, Bool.and_eq_true]; exact ⟨h1.1, ih j y h1.2 h2⟩
      refine key _ _ _ (hc _) ?_
      simp [openT, AV.low, AV.lowL, h hik]
    · rw [List.set_eq_of_length_le (by simp; omega)]
      exact hc _
  · exact hc _
theorem twinPre_next (l : List Tbl) (i k : Nat) (hk : k < l.length) : twinPre l i (k + 1) = twinPre l i k ++ [if i = k then openT l[k] else l[k].enc] := by
  have hm : (l.take (k + 1)).map Tbl.enc = (l.take k).map Tbl.enc ++ [l[k].enc] := by
    rw [List.take_succ_eq_append_getElem hk, List.map_append]; rfl
  have hlen : ((l.take k).map Tbl.enc).length = k := by simp; omega
  unfold twinPre
  split
  · rename_i t ht
    rw [hm]
    by_cases e : i = k
    · subst e
      have : t = l[i] := by rw [List.getElem?_eq_getElem hk] at ht; exact (Option.some.inj ht).symm
      subst this
      rw [List.set_append_right _ _ (by omega), hlen, Nat.sub_self, if_pos rfl, List.set_eq_of_length_le (l := (l.take i).map Tbl.enc) (by omega)]
      rfl
    · rw [if_neg e]
      by_cases h : i < k
      · rw [List.set_append_left _ _ (by omega)]
      · rw [List.set_append_right _ _ (by omega), hlen, List.set_eq_of_length_le (l := (l.take k).map Tbl.enc) (by omega), List.set_eq_of_length_le (by simp; omega)]
  · rename_i ht
    rw [hm, if_neg (fun e => by subst e; rw [List.getElem?_eq_getElem hk] at ht; cases ht)]
theorem take_enc {α : Type} {f : α → AV} {l : List α} {j : Nat} (h : j < l.length) : (l.take j).map f ++ [f l[j]] = (l.take (j + 1)).map f := by
  rw [List.take_succ_eq_append_getElem h, List.map_append]; rfl
theorem twinTok_a (l : List Tbl) (i k : Nat) (h : i < k) (hl : i < l.length) : twinTok l i k = [.vec (twinPre l i k), .vec (l[i].rows.map Row.enc)] := by
  unfold twinTok; rw [List.getElem?_eq_getElem hl]; simp only [if_pos h]
theorem twinTok_b (l : List Tbl) (i k : Nat) (h : ¬ i < k) : twinTok l i k = [.vec (twinPre l i k)] := by
  unfold twinTok; split <;> simp [h]
theorem twinA (l : List Tbl) (i : Nat) (hl : l.length ≤ 1048576) (hr : ∀ t ∈ l, t.rows.length ≤ 1048576) (hcl : ∀ t ∈ l, ∀ r ∈ t.rows, r.cols.length ≤ 1048576) :
    AFn Tryz.prog 27 [Tbls.enc l] ⟨[], []⟩ (fun e σ => e = .ret (.vec 0 2 l.length 0 l.length) ∧ σ = ⟨[], twinTok l i l.length⟩) := by
  refine AFn.en [2] Tryz.func27 ?_
  refine .go ?_
  change HCode _ _ _ _ _ _ _
  refine HCode.turn 3 rfl (Turn.vadopt (z := 2) rfl rfl rfl) ?_
  refine HCode.loopG (fun n s σ => ∃ k : Nat, n = l.length - k ∧ k ≤ l.length ∧ σ = ⟨[], twinTok l i k⟩ ∧ s = [(11, .int .i64 k), (10, .int .i64 l.length), (9, Tbls.enc l), (3, .vec 0 2 k 0 k)])
    (s0 := [(11, .int .i64 (0 : Nat)), (10, .int .i64 l.length), (9, Tbls.enc l), (3, .vec 0 2 0 0 0)])
    ⟨rfl, rfl, rfl, rfl, trivial⟩ ⟨0, rfl, Nat.zero_le _, (by rw [twinTok_b l i 0 (by omega)]; unfold twinPre; split <;> rfl), rfl⟩ ?_
  rintro n s σ ⟨k, rfl, hk, rfl, rfl⟩
  by_cases h1 : k < l.length
  · have d1 : decide ((k : Int) < (l.length : Int)) = true := by simp [h1]
    have x1 := map_get' (f := Tbl.enc) h1
    have hrl := hr _ (List.getElem_mem h1)
    have hpl := twinPre_len l i k hk
    have hnx := twinPre_next l i k h1
    rcases Nat.lt_trichotomy i k with hik | hik | hik
    · rw [twinTok_a l i k hik (by omega)]
      refine .go ?_
      change HCode _ _ _ _ _ _ _
      refine HCode.turnB 0 1 rfl rfl (Turn.vadopt (z := 4) rfl rfl rfl) rfl ?_
      refine HCode.loop (fun n s σ => ∃ j : Nat, n = l[k].rows.length - j ∧ j ≤ l[k].rows.length ∧ σ = ⟨[.cells [.str l[k].name, .vec 2 4 j 0 j]], [.vec (twinPre l i k), .vec (l[i].rows.map Row.enc)] ++ [.vec ((l[k].rows.take j).map Row.enc)]⟩ ∧
        s = [(20, .int .i64 j), (19, .int .i64 l[k].rows.length), (18, .slice (l[k].rows.map Row.enc) .no), (11, .int .i64 k), (10, .int .i64 l.length), (9, Tbls.enc l), (3, .vec 0 2 k 0 k), (5, .ptr 0 0)])
        (s0 := [(20, .int .i64 (0 : Nat)), (19, .int .i64 l[k].rows.length), (18, .slice (l[k].rows.map Row.enc) .no), (11, .int .i64 k), (10, .int .i64 l.length), (9, Tbls.enc l), (3, .vec 0 2 k 0 k), (5, .ptr 0 0)])
        ⟨rfl, rfl, rfl, rfl, rfl, rfl, rfl, rfl, trivial⟩ ⟨0, rfl, Nat.zero_le _, rfl, rfl⟩ ?_
      rintro n s σ ⟨j, rfl, hj, rfl, rfl⟩
      have hjl : ((l[k].rows.take j).map Row.enc).length = j := by simp; omega
      by_cases h2 : j < l[k].rows.length
      · have d2 : decide ((j : Int) < (l[k].rows.length : Int)) = true := by simp [h2]
        have x2 := map_get' (f := Row.enc) h2
        have ht := twin l[k].rows[j] (hcl _ (List.getElem_mem h1) _ (List.getElem_mem h2))
        repeat' first | refine .s1 ?_ | (refine .q ?_ ?_ <;> intro hc) | refine A.call rfl ht (WeakL.refl _) ?_ | refine A.vappend (m := j + 1) rfl rfl rfl rfl rfl rfl rfl rfl hjl rfl rfl (by dsimp only; omega) (by omega) rfl ?_ | fail
        refine ⟨l[k].rows.length - (j + 1), by omega, [(20, .int .i64 ((j + 1 : Nat) : Int)), (19, .int .i64 l[k].rows.length), (18, .slice (l[k].rows.map Row.enc) .no), (11, .int .i64 k), (10, .int .i64 l.length), (9, Tbls.enc l), (3, .vec 0 2 k 0 k), (5, .ptr 0 0)],
          ⟨rfl, rfl, rfl, rfl, rfl, rfl, rfl, rfl, trivial⟩, by simp [belowS, AV.low, Row.lowL, Tbls.enc, Tbl.lowL], ?_, j + 1, rfl, by omega, ?_, rfl⟩
        · have hp2 := twinPre_low (a := 1) (n := 2 + 1) l i k (by omega)
          have hp4 := Row.lowL 1 (2 + 1) (l[k].rows.take j)
          simp [-List.map_take, belowB, belowT, Ob.low, Tok.low, AV.lowL, AV.low, lowL_append, hp2, hp4, Mem.lowL, Row.lowL]
        · rw [← take_enc h2]; rfl
      · have d2 : decide ((j : Int) < (l[k].rows.length : Int)) = false := by simp; omega
        have hjn : j = l[k].rows.length := by omega
        subst hjn
        have hfl := hjl
        have hcan : (((l[k].rows.take l[k].rows.length).map Row.enc).take l[k].rows.length).drop 0 = l[k].rows.map Row.enc := by rw [List.take_length, List.drop_zero, List.take_of_length_le (by simp)]
        repeat' first | refine HCode.turnB 0 1 rfl rfl ((Turn.freeze rfl hfl rfl).trans (Turn.weak (Weak.no (WeakL.eq hcan)))) rfl ?_ | refine .s1 ?_ | (refine .q ?_ ?_ <;> intro hc) | refine A.vappend (m := k + 1) rfl rfl rfl rfl rfl rfl rfl rfl hpl rfl rfl (by dsimp only; omega) (by omega) rfl ?_ | fail
        refine ⟨l.length - (k + 1), by omega, [(11, .int .i64 ((k + 1 : Nat) : Int)), (10, .int .i64 l.length), (9, Tbls.enc l), (3, .vec 0 2 (k + 1) 0 (k + 1))], 0, 2, Nat.zero_le _, (by simp),
          ⟨rfl, rfl, rfl, rfl, trivial⟩, by simp [belowS, AV.low, Tbls.enc, Tbl.lowL], rfl, ?_, k + 1, rfl, by omega, ?_, rfl⟩
        · have hp2 := twinPre_low (a := 0) (n := 2) l i (k + 1) (by omega)
          rw [hnx, if_neg (by omega)] at hp2
          have hp3 : ∀ L : List Row, AV.lowL 0 2 (L.map Row.enc) = true := fun L => Row.lowL 0 2 L
          simp [-List.map_take, belowT, Tok.low, hp3]
          exact hp2
        · rw [twinTok_a l i (k + 1) (by omega) (by omega), hnx, if_neg (by omega)]
          rfl
    · rw [twinTok_b l i k (by omega)]
      refine .go ?_
      change HCode _ _ _ _ _ _ _
      refine HCode.turnB 0 1 rfl rfl (Turn.vadopt (z := 4) rfl rfl rfl) rfl ?_
      refine HCode.loop (fun n s σ => ∃ j : Nat, n = l[k].rows.length - j ∧ j ≤ l[k].rows.length ∧ σ = ⟨[.cells [.str l[k].name, .vec 1 4 j 0 j]], [.vec (twinPre l i k)] ++ [.vec ((l[k].rows.take j).map Row.enc)]⟩ ∧
        s = [(20, .int .i64 j), (19, .int .i64 l[k].rows.length), (18, .slice (l[k].rows.map Row.enc) .no), (11, .int .i64 k), (10, .int .i64 l.length), (9, Tbls.enc l), (3, .vec 0 2 k 0 k), (5, .ptr 0 0)])
        (s0 := [(20, .int .i64 (0 : Nat)), (19, .int .i64 l[k].rows.length), (18, .slice (l[k].rows.map Row.enc) .no), (11, .int .i64 k), (10, .int .i64 l.length), (9, Tbls.enc l), (3, .vec 0 2 k 0 k), (5, .ptr 0 0)])
        ⟨rfl, rfl, rfl, rfl, rfl, rfl, rfl, rfl, trivial⟩ ⟨0, rfl, Nat.zero_le _, rfl, rfl⟩ ?_
      rintro n s σ ⟨j, rfl, hj, rfl, rfl⟩
      have hjl : ((l[k].rows.take j).map Row.enc).length = j := by simp; omega
      by_cases h2 : j < l[k].rows.length
      · have d2 : decide ((j : Int) < (l[k].rows.length : Int)) = true := by simp [h2]
        have x2 := map_get' (f := Row.enc) h2
        have ht := twin l[k].rows[j] (hcl _ (List.getElem_mem h1) _ (List.getElem_mem h2))
        repeat' first | refine .s1 ?_ | (refine .q ?_ ?_ <;> intro hc) | refine A.call rfl ht (WeakL.refl _) ?_ | refine A.vappend (m := j + 1) rfl rfl rfl rfl rfl rfl rfl rfl hjl rfl rfl (by dsimp only; omega) (by omega) rfl ?_ | fail
        refine ⟨l[k].rows.length - (j + 1), by omega, [(20, .int .i64 ((j + 1 : Nat) : Int)), (19, .int .i64 l[k].rows.length), (18, .slice (l[k].rows.map Row.enc) .no), (11, .int .i64 k), (10, .int .i64 l.length), (9, Tbls.enc l), (3, .vec 0 2 k 0 k), (5, .ptr 0 0)],
          ⟨rfl, rfl, rfl, rfl, rfl, rfl, rfl, rfl, trivial⟩, by simp [belowS, AV.low, Row.lowL, Tbls.enc, Tbl.lowL], ?_, j + 1, rfl, by omega, ?_, rfl⟩
        · have hp2 := twinPre_low (a := 1) (n := 1 + 1) l i k (by omega)
          have hp4 := Row.lowL 1 (1 + 1) (l[k].rows.take j)
          simp [-List.map_take, belowB, belowT, Ob.low, Tok.low, AV.lowL, AV.low, lowL_append, hp2, hp4, Mem.lowL, Row.lowL]
        · rw [← take_enc h2]; rfl
      · have d2 : decide ((j : Int) < (l[k].rows.length : Int)) = false := by simp; omega
        have hjn : j = l[k].rows.length := by omega
        subst hjn
        have hfl := hjl
        have hcan : (((l[k].rows.take l[k].rows.length).map Row.enc).take l[k].rows.length).drop 0 = l[k].rows.map Row.enc := by rw [List.take_length, List.drop_zero, List.take_of_length_le (by simp)]
        repeat' first | fail | refine .s1 ?_ | (refine .q ?_ ?_ <;> intro hc) | refine A.vappend (m := k + 1) rfl rfl rfl rfl rfl rfl rfl rfl hpl rfl rfl (by dsimp only; omega) (by omega) rfl ?_ | fail
        refine ⟨l.length - (k + 1), by omega, [(11, .int .i64 ((k + 1 : Nat) : Int)), (10, .int .i64 l.length), (9, Tbls.enc l), (3, .vec 0 2 (k + 1) 0 (k + 1))], 0, 2, Nat.zero_le _, (by simp),
          ⟨rfl, rfl, rfl, rfl, trivial⟩, by simp [belowS, AV.low, Tbls.enc, Tbl.lowL], rfl, ?_, k + 1, rfl, by omega, ?_, rfl⟩
        · have hp2 := twinPre_low (a := 0) (n := 2) l i (k + 1) (by omega)
          rw [hnx, if_pos hik] at hp2
          have hp3 : ∀ L : List Row, AV.lowL 0 2 (L.map Row.enc) = true := fun L => Row.lowL 0 2 L
          simp [-List.map_take, belowT, Tok.low, hp3]
          exact hp2
        · rw [twinTok_a l i (k + 1) (by omega) (by omega), hnx, if_pos hik]
          subst hik; rw [List.take_length]; rfl
    · rw [twinTok_b l i k (by omega)]
      refine .go ?_
      change HCode _ _ _ _ _ _ _
      refine HCode.turnB 0 1 rfl rfl (Turn.vadopt (z := 4) rfl rfl rfl) rfl ?_
      refine HCode.loop (fun n s σ => ∃ j : Nat, n = l[k].rows.length - j ∧ j ≤ l[k].rows.length ∧ σ = ⟨[.cells [.str l[k].name, .vec 1 4 j 0 j]], [.vec (twinPre l i k)] ++ [.vec ((l[k].rows.take j).map Row.enc)]⟩ ∧
        s = [(20, .int .i64 j), (19, .int .i64 l[k].rows.length), (18, .slice (l[k].rows.map Row.enc) .no), (11, .int .i64 k), (10, .int .i64 l.length), (9, Tbls.enc l), (3, .vec 0 2 k 0 k), (5, .ptr 0 0)])
        (s0 := [(20, .int .i64 (0 : Nat)), (19, .int .i64 l[k].rows.length), (18, .slice (l[k].rows.map Row.enc) .no), (11, .int .i64 k), (10, .int .i64 l.length), (9, Tbls.enc l), (3, .vec 0 2 k 0 k), (5, .ptr 0 0)])
        ⟨rfl, rfl, rfl, rfl, rfl, rfl, rfl, rfl, trivial⟩ ⟨0, rfl, Nat.zero_le _, rfl, rfl⟩ ?_
      rintro n s σ ⟨j, rfl, hj, rfl, rfl⟩
      have hjl : ((l[k].rows.take j).map Row.enc).length = j := by simp; omega
      by_cases h2 : j < l[k].rows.length
      · have d2 : decide ((j : Int) < (l[k].rows.length : Int)) = true := by simp [h2]
        have x2 := map_get' (f := Row.enc) h2
        have ht := twin l[k].rows[j] (hcl _ (List.getElem_mem h1) _ (List.getElem_mem h2))
        repeat' first | refine .s1 ?_ | (refine .q ?_ ?_ <;> intro hc) | refine A.call rfl ht (WeakL.refl _) ?_ | refine A.vappend (m := j + 1) rfl rfl rfl rfl rfl rfl rfl rfl hjl rfl rfl (by dsimp only; omega) (by omega) rfl ?_ | fail
        refine ⟨l[k].rows.length - (j + 1), by omega, [(20, .int .i64 ((j + 1 : Nat) : Int)), (19, .int .i64 l[k].rows.length), (18, .slice (l[k].rows.map Row.enc) .no), (11, .int .i64 k), (10, .int .i64 l.length), (9, Tbls.enc l), (3, .vec 0 2 k 0 k), (5, .ptr 0 0)],
          ⟨rfl, rfl, rfl, rfl, rfl, rfl, rfl, rfl, trivial⟩, by simp [belowS, AV.low, Row.lowL, Tbls.enc, Tbl.lowL], ?_, j + 1, rfl, by omega, ?_, rfl⟩
        · have hp2 := twinPre_low (a := 1) (n := 1 + 1) l i k (by omega)
          have hp4 := Row.lowL 1 (1 + 1) (l[k].rows.take j)
          simp [-List.map_take, belowB, belowT, Ob.low, Tok.low, AV.lowL, AV.low, lowL_append, hp2, hp4, Mem.lowL, Row.lowL]
        · rw [← take_enc h2]; rfl
      · have d2 : decide ((j : Int) < (l[k].rows.length : Int)) = false := by simp; omega
        have hjn : j = l[k].rows.length := by omega
        subst hjn
        have hfl := hjl
        have hcan : (((l[k].rows.take l[k].rows.length).map Row.enc).take l[k].rows.length).drop 0 = l[k].rows.map Row.enc := by rw [List.take_length, List.drop_zero, List.take_of_length_le (by simp)]
        repeat' first | refine HCode.turnB 0 1 rfl rfl ((Turn.freeze rfl hfl rfl).trans (Turn.weak (Weak.no (WeakL.eq hcan)))) rfl ?_ | refine .s1 ?_ | (refine .q ?_ ?_ <;> intro hc) | refine A.vappend (m := k + 1) rfl rfl rfl rfl rfl rfl rfl rfl hpl rfl rfl (by dsimp only; omega) (by omega) rfl ?_ | fail
        refine ⟨l.length - (k + 1), by omega, [(11, .int .i64 ((k + 1 : Nat) : Int)), (10, .int .i64 l.length), (9, Tbls.enc l), (3, .vec 0 2 (k + 1) 0 (k + 1))], 0, 1, Nat.zero_le _, (by simp),
          ⟨rfl, rfl, rfl, rfl, trivial⟩, by simp [belowS, AV.low, Tbls.enc, Tbl.lowL], rfl, ?_, k + 1, rfl, by omega, ?_, rfl⟩
        · have hp2 := twinPre_low (a := 0) (n := 1) l i (k + 1) (by omega)
          rw [hnx, if_neg (by omega)] at hp2
          have hp3 : ∀ L : List Row, AV.lowL 0 1 (L.map Row.enc) = true := fun L => Row.lowL 0 1 L
          simp [-List.map_take, belowT, Tok.low, hp3]
          exact hp2
        · rw [twinTok_b l i (k + 1) (by omega), hnx, if_neg (by omega)]
          rfl
  · have d1 : decide ((k : Int) < (l.length : Int)) = false := by simp; omega
    have hka : k = l.length := by omega
    subst hka
    refine .go ?_
    exact ⟨rfl, rfl⟩
theorem twinTok_none (l : List Tbl) : twinTok l l.length l.length = [.vec (l.map Tbl.enc)] := by
  rw [twinTok_b l _ _ (by omega)]; unfold twinPre; simp
theorem twinT (l : List Tbl) (hl : l.length ≤ 1048576) (hr : ∀ t ∈ l, t.rows.length ≤ 1048576) (hcl : ∀ t ∈ l, ∀ r ∈ t.rows, r.cols.length ≤ 1048576) : PFn Tryz.prog 27 [Tbls.enc l] (Tbls.enc l) := by
  refine AFn.plainT (Tbls.closed l) (by simp [AV.closedL, Tbls.closed]) (AFn.mono (twinA l l.length hl hr hcl) ?_)
  rintro e σ ⟨rfl, rfl⟩
  rw [twinTok_none]
  refine ⟨_, _, rfl, (Turn.freeze rfl (by simp) rfl).trans (Turn.weak (Weak.no (WeakL.eq ?_)))⟩
  rw [List.drop_zero, List.take_of_length_le (by simp)]
def fidx {α : Type} (p : α → Bool) : List α → Option Nat
  | [] => none
  | x :: l => if p x then some 0 else (fidx p l).map (· + 1)
def modAt {α : Type} (l : List α) (i : Nat) (f : α → α) : List α :=
  match l[i]? with
  | some x => l.set i (f x)
  | none => l
def putRows (rows : List Row) (r : Row) : List Row :=
  match fidx (fun x : Row => x.key == r.key) rows with
  | none => rows ++ [r]
  | some k => rows.set k r
def cutRows (rows : List Row) (key : Str) : List Row :=
  match fidx (fun x : Row => x.key == key) rows with
  | none => rows
  | some k => rows.take k ++ rows.drop (k + 1)
def putG (l : List Tbl) (name : Str) (r : Row) : List Tbl :=
  match fidx (fun t : Tbl => t.name == name) l with
  | none => l ++ [⟨name, [r]⟩]
  | some i => modAt l i fun t => ⟨t.name, putRows t.rows r⟩
def cutG (l : List Tbl) (name key : Str) : List Tbl :=
  match fidx (fun t : Tbl => t.name == name) l with
  | none => l
  | some i => modAt l i fun t => ⟨t.name, cutRows t.rows key⟩
def setG (l : List Mem) (name : Str) (v : Val) : List Mem :=
  match fidx (fun m : Mem => m.name == name) l with
  | none => l ++ [.mk name v]
  | some i => modAt l i fun m => .mk m.name v
def colG (r : Row) (name : Str) : Val := (getG name r.cols).1
theorem col (r : Row) (name : Str) (hl : r.cols.length ≤ 9223372036854775807) : PFn Tryz.prog 73 [r.enc, .str name] (colG r name).enc := by
  refine AFn.plain (Val.closed _) (by simp [AV.closedL, AV.closed, Row.closed]) (AFn.eR [.cell 4 38] Tryz.func73 ?_)
  have hg := get name r.cols hl
  repeat' first | refine A.box_r rfl rfl ?_ | refine .s1 ?_ | (refine .q ?_ ?_ <;> intro hc) | refine A.call rfl hg (WeakL.refl _) ?_ | fail
  exact FinR.r0
def withinB (n : Int) : Bool := decide (-2147483648 ≤ n) && decide (n ≤ 2147483647)
def sPutC : Str := [112, 117, 116]
def sCutC : Str := [99, 117, 116]
def sAddC : Str := [97, 100, 100]
def sBurnC : Str := [98, 117, 114, 110]
def sKey : Str := [107, 101, 121]
def sBy : Str := [98, 121]
def knownG (n : Str) : Bool := n == sPutC || n == sCutC || n == sAddC || n == sBurnC
def putCols : List Mem → List Mem → List Mem
  | [], cols => cols
  | m :: args, cols => putCols args (if m.name != sKey then setG cols m.name m.v else cols)
structure Fine (B : Nat) (l : List Tbl) : Prop where
  len : l.length ≤ B
  rows : ∀ t ∈ l, t.rows.length ≤ B
  cols : ∀ t ∈ l, ∀ r ∈ t.rows, r.cols.length ≤ B
def putRow (c : Cmd) (key : Str) (g : Got) : Row :=
  let r := if g.is then g.row else ⟨key, c.typ, [], false⟩
  { r with cols := putCols c.args r.cols }
def wrap64 (n : Int) : Int := IntKind.i64.wrap n
def addG (l : List Tbl) (c : Cmd) (r : Row) : List Tbl × Val × Int :=
  let b := (getG sBy c.args).1
  let w := colG r c.col
  if b.kind != 2 then (l, val0, 1)
  else if w.kind != 2 then (l, val0, 7)
  else if !withinB b.n || !withinB w.n || !withinB (wrap64 (b.n + w.n)) then (l, val0, 8)
  else (putG l c.table { r with cols := setG r.cols c.col (intV (wrap64 (b.n + w.n))) }, intV (wrap64 (b.n + w.n)), 0)
def cmdG (l : List Tbl) (c : Cmd) : List Tbl × Val × Int :=
  if !knownG c.name then (l, val0, 1)
  else if c.name == sBurnC then (l, val0, 11)
  else if (getG sKey c.args).1.kind != 4 then (l, val0, 1)
  else if (findG l ⟨c.table, (getG sKey c.args).1.s⟩).e != 0 then (l, val0, (findG l ⟨c.table, (getG sKey c.args).1.s⟩).e)
  else if c.name == sPutC then (putG l c.table (putRow c (getG sKey c.args).1.s (findG l ⟨c.table, (getG sKey c.args).1.s⟩)), textV (getG sKey c.args).1.s, 0)
  else if !(findG l ⟨c.table, (getG sKey c.args).1.s⟩).is then (l, val0, 6)
  else if c.name == sCutC then (cutG l c.table (getG sKey c.args).1.s, textV (getG sKey c.args).1.s, 0)
  else addG l c (findG l ⟨c.table, (getG sKey c.args).1.s⟩).row
end Go.Proofs.YtmfmdehfbpkgdaaGreatDoor
namespace Go.Proofs.YtmfmdehfbpkgdaaGreatDoor
open Go Go.Av
structure Step where
  name : Str
  at_ : Int
def Step.enc (a : Step) : AV := .agg [.str a.name, .int .i64 a.at_]
abbrev Path := List Step
theorem Step.closed (a : Step) : a.enc.closed = true := rfl
theorem Step.closedL (l : List Step) : AV.closedL (l.map Step.enc) = true := closedL_map Step.closed l
theorem Step.fits (a : Step) : Av.fits true 2 a.enc = true := rfl
theorem Step.fitsAll (l : List Step) : Av.fitsAll true 2 (l.map Step.enc) = true := fitsAll_map Step.fits l
deriving instance DecidableEq for Need
structure Fau where
  path : Path
  e : Int
def Fau.enc (f : Fau) : AV := .agg [.slice (f.path.map Step.enc) .no, .int .i64 f.e]
inductive Nd where
  | mk (kind : Int) (must : Bool) (v : Val) (keys : List Str) (l : List Nd)
structure EvS where
  L : List Tbl
  F : List Fau
  R : List (List Need)
  c : Nat
def EvS.tick (st : EvS) : EvS := ⟨st.L, st.F, st.R, st.c + 1⟩
def EvS.bad (st : EvS) (p : Path) (e : Int) : EvS := ⟨st.L, st.F ++ [⟨p, e⟩], st.R, st.c⟩
def readL (n : Need) : List (List Need) → List (List Need)
  | [] => []
  | [r] => if n ∈ r then [r] else [r ++ [n]]
  | r :: q :: l => r :: readL n (q :: l)
def EvS.read (st : EvS) (n : Need) : EvS := ⟨st.L, st.F, readL n st.R, st.c⟩
def badN (must : Bool) : Nd := .mk 3 must val0 [] []
def leafN (must : Bool) (v : Val) : Nd := .mk 0 must v [] []
abbrev Pl := Str → Row → List Sl → Path → Bool → EvS → Nd × EvS
def gotM (s : Sch) (pl : Pl) (sels : List Sl) (t : Typ) (p : Path) (g : Got) (st : EvS) : Nd × EvS :=
  if g.e ≠ 0 then (badN (isT t), st.bad p g.e)
  else if g.is = false then (if isT t = true then (badN true, st.bad p 9) else (leafN false val0, st))
  else if g.row.typ ∉ possB s t.name then (badN (isT t), st.bad p 7)
  else pl g.row.typ g.row sels p (isT t) st
mutual
def complM (s : Sch) (pl : Pl) (tb : Str) (sels : List Sl) : Val → Typ → Path → EvS → Nd × EvS
  | .mk k n str l m, t, p, st0 =>
    let st := st0.tick
    if k = 0 then (if isT t = true then (badN true, st.bad p 9) else (leafN false val0, st))
    else if (itemR t).2 = true then
      (if k ≠ 6 then (badN (isT t), st.bad p 7)
      else
        let q := complL s pl tb sels l (itemT t) p 0 st
        (.mk 1 (isT t) val0 [] q.1, q.2))
    else if compB s t.name = false then
      (let o := outR s t.name (.mk k n str l m)
      if o.2 ≠ 0 then (badN (isT t), st.bad p o.2) else (leafN (isT t) o.1, st))
    else if k ≠ 4 then (badN (isT t), st.bad p 7)
    else gotM s pl sels t p (findG st.L ⟨tb, str⟩) (st.read ⟨tb, str⟩)
def complL (s : Sch) (pl : Pl) (tb : Str) (sels : List Sl) : List Val → Typ → Path → Nat → EvS → List Nd × EvS
  | [], _, _, _, st => ([], st)
  | v :: l, t, p, i, st =>
    let r := complM s pl tb sels v t (p ++ [⟨[], i⟩]) st
    let q := complL s pl tb sels l t p (i + 1) r.2
    (r.1 :: q.1, q.2)
end
def sl0 : Sl := .mk 0 [] [] [] [] [] []
def cmdOf (f : Fld) (b : Bnd) (args : List Mem) : Cmd := ⟨b.cmd, b.table, b.col, f.t.name, args⟩
def fieldM (s : Sch) (d : Dcm) (env : List Mem) (pl : Pl) (dox : Bool) (typ : Str) (row : Row) (g : Grp) (p : Path) (st0 : EvS) : Nd × EvS :=
  let st := st0.tick
  let x := g.sels.headD sl0
  let f := (fieldR s typ x.name).1
  if x.name = sTypename then (leafN (isT f.t) (textV typ), st)
  else
    let a := argsV s f.params x.args env
    if a.2 ≠ 0 then (badN (isT f.t), st.bad p a.2)
    else
      let b := (ofB s typ f).1
      if b.how = 3 then
        (if dox = true then
          (let r := cmdG st.L (cmdOf f b a.1)
          let st1 : EvS := ⟨r.1, st.F, st.R ++ [[]], st.c⟩
          if r.2.2 ≠ 0 then (badN (isT f.t), st1.bad p r.2.2) else complM s pl b.table (belowM' g.sels) r.2.1 f.t p st1)
        else (badN (isT f.t), st.bad p 14))
      else complM s pl b.table (belowM' g.sels) (if b.how = 2 then (getG b.arg a.1).1 else colG row b.col) f.t p st
def foldN {α : Type} (fm : α → EvS → Nd × EvS) : List α → EvS → List Nd × EvS
  | [], st => ([], st)
  | g :: l, st =>
    let r := fm g st
    let q := foldN fm l r.2
    (r.1 :: q.1, q.2)
def placeM (s : Sch) (d : Dcm) (env : List Mem) : Nat → Bool → Pl
  | 0, _ => fun _ _ _ _ must st => (.mk 2 must val0 [] [], ⟨st.L, st.F, st.R, st.c + 1000000000⟩)
  | n + 1, dox => fun typ row sels p must st =>
    let gs := groupsM s d env typ sels
    let q := foldN (fun g st => fieldM s d env (placeM s d env n false) dox typ row g (p ++ [⟨g.key, 0⟩]) st) gs st.tick
    (.mk 2 must val0 (gs.map Grp.key) q.1, q.2)
def rootT (s : Sch) (o : Opr) : Str := if o.kind = 1 then s.mutation else s.query
def row0 : Row := ⟨[], [], [], false⟩
mutual
def upM : Nd → Val × Bool
  | .mk k must v keys l =>
    let w := if k = 0 then v else if k = 1 then (match upL l with | some vs => .mk 6 0 [] vs [] | none => val0)
      else if k = 2 then (match upP keys l with | some ms => .mk 7 0 [] [] ms | none => val0) else val0
    if w.kind = 0 ∧ must = true then (val0, false) else (w, true)
def upL : List Nd → Option (List Val)
  | [] => some []
  | x :: l => if (upM x).2 = true then (upL l).map ((upM x).1 :: ·) else none
def upP : List Str → List Nd → Option (List Mem)
  | _, [] => some []
  | keys, x :: l => if (upM x).2 = true then (upP keys.tail l).map (Mem.mk (keys.headD []) (upM x).1 :: ·) else none
end
end Go.Proofs.YtmfmdehfbpkgdaaGreatDoor
namespace Go.Av
open Go
theorem setTK_eq {v : Tok} : ∀ {k : Nat} {T : List Tok} {f : List Tok → Option (List Tok)}, k < T.length → setTK k v T f = f (T.set k v)
  | 0, x :: T, f, _ => rfl
  | k + 1, x :: T, f, h => by rw [setTK, setTK_eq (by simpa using h)]; rfl
  | _, [], _, h => by simp at h
theorem smallLen_eq {α : Type} (l : List α) : smallLen l = some l.length := by
  unfold smallLen
  split <;> simp
theorem snocK_eq {α β : Type} : ∀ (l : List β) (x : β) (f : List β → Option α), snocK l x f = f (l ++ [x])
  | [], x, f => rfl
  | y :: l, x, f => by rw [snocK, snocK_eq l]; rfl
end Go.Av
namespace Go.Proofs.YtmfmdehfbpkgdaaGreatDoor
open Go Go.Av
attribute [local irreducible] HCode AOps PFn AFn Av.Step TStep
theorem Fau.closed (f : Fau) : f.enc.closed = true := by simp [Fau.enc, AV.closed, AV.closedL, Step.closedL]
theorem Fau.closedL (l : List Fau) : AV.closedL (l.map Fau.enc) = true := closedL_map Fau.closed l
@[simp] theorem lowL_Fau (n m : Nat) (l : List Fau) : AV.lowL n m (List.map Fau.enc l) = true := AV.lowL_of_closed n m _ (Fau.closedL l)
def Nd.kind : Nd → Int
  | .mk k _ _ _ _ => k
def Nd.must : Nd → Bool
  | .mk _ m _ _ _ => m
def Nd.v : Nd → Val
  | .mk _ _ v _ _ => v
def Nd.keys : Nd → List Str
  | .mk _ _ _ k _ => k
def Nd.l : Nd → List Nd
  | .mk _ _ _ _ l => l
mutual
def Nd.kl : Nd → List AV
  | .mk _ _ _ _ l => Nd.goK l
def Nd.goK : List Nd → List AV
  | [] => []
  | x :: l => .rptr (.agg [.int .i64 x.kind, .bool x.must, .int .i64 x.v.kind, .int .i64 x.v.n, .str x.v.s, .slice x.v.lv .no, .slice x.v.mv .no, .slice (x.keys.map AV.str) .no, .slice [] .nil, .slice (Nd.kl x) .no]) :: Nd.goK l
end
def Nd.kenc (x : Nd) : AV := .agg [.int .i64 x.kind, .bool x.must, .int .i64 x.v.kind, .int .i64 x.v.n, .str x.v.s, .slice x.v.lv .no, .slice x.v.mv .no, .slice (x.keys.map AV.str) .no, .slice [] .nil, .slice x.kl .no]
mutual
def Nd.nl : Nd → List AV
  | .mk _ _ _ _ l => Nd.goN l
def Nd.goN : List Nd → List AV
  | [] => []
  | x :: l => .agg [.int .i64 x.kind, .bool x.must, .int .i64 x.v.kind, .int .i64 x.v.n, .str x.v.s, .slice x.v.lv .no, .slice x.v.mv .no, .slice (x.keys.map AV.str) .no, .slice (Nd.nl x) .no] :: Nd.goN l
end
def Nd.enc (x : Nd) : AV := .agg [.int .i64 x.kind, .bool x.must, .int .i64 x.v.kind, .int .i64 x.v.n, .str x.v.s, .slice x.v.lv .no, .slice x.v.mv .no, .slice (x.keys.map AV.str) .no, .slice x.nl .no]
theorem Nd.goK_eq : ∀ l : List Nd, Nd.goK l = l.map fun x => .rptr x.kenc
  | [] => by simp [Nd.goK]
  | x :: l => by rw [Nd.goK, Nd.goK_eq l]; rfl
theorem Nd.goN_eq : ∀ l : List Nd, Nd.goN l = l.map Nd.enc
  | [] => by simp [Nd.goN]
  | x :: l => by rw [Nd.goN, Nd.goN_eq l]; rfl
theorem Nd.kl_eq (x : Nd) : x.kl = x.l.map fun y => .rptr y.kenc := by cases x; rw [Nd.kl, Nd.goK_eq]; rfl
theorem Nd.nl_eq (x : Nd) : x.nl = x.l.map Nd.enc := by cases x; rw [Nd.nl, Nd.goN_eq]; rfl
mutual
theorem Nd.kclosed : ∀ x : Nd, x.kenc.closed = true
  | .mk k m v ks l => by
    simp only [Nd.kenc, AV.closed, AV.closedL, Bool.and_true, Bool.true_and, Val.lv_closed, Val.mv_closed, str_closedL]
    rw [Nd.kl, Nd.kclosedL l]
theorem Nd.kclosedL : ∀ l : List Nd, AV.closedL (Nd.goK l) = true
  | [] => by simp [Nd.goK, AV.closedL]
  | x :: l => by
    have h1 := Nd.kclosed x
    have h2 := Nd.kclosedL l
    rw [Nd.goK, AV.closedL, h2, Bool.and_true]
    exact h1
end
mutual
theorem Nd.closed : ∀ x : Nd, x.enc.closed = true
  | .mk k m v ks l => by
    simp only [Nd.enc, AV.closed, AV.closedL, Bool.and_true, Bool.true_and, Val.lv_closed, Val.mv_closed, str_closedL]
    rw [Nd.nl, Nd.closedL l]
theorem Nd.closedL : ∀ l : List Nd, AV.closedL (Nd.goN l) = true
  | [] => by simp [Nd.goN, AV.closedL]
  | x :: l => by
    have h1 := Nd.closed x
    have h2 := Nd.closedL l
    rw [Nd.goN, AV.closedL, h2, Bool.and_true]
    exact h1
end
theorem Nd.closedL' (l : List Nd) : AV.closedL (l.map Nd.enc) = true := by rw [← Nd.goN_eq]; exact Nd.closedL l
theorem Nd.kclosedL' (l : List Nd) : AV.closedL (l.map fun y => AV.rptr y.kenc) = true := by rw [← Nd.goK_eq]; exact Nd.kclosedL l
def kn0 (must : Bool) : AV := .agg [.int .i64 0, .bool must, .int .i64 0, .int .i64 0, .str [], .slice [] .nil, .slice [] .nil, .slice [] .nil, .slice [] .nil, .slice [] .nil]
theorem kItem {B : List Ob} {T : List Tok} {j b n : Nat} {xs : List AV} {a0 a1 a2 a3 a4 a5 a6 a7 a8 : AV} (hj : T[j]? = some (.vec [.agg [a0, a1, a2, a3, a4, a5, a6, a7, a8, .slice xs (.own b 1)]])) (hb : T[b]? = some (.len n)) (hn : xs.length = n) (hjb : j ≠ b) (hm : n ≤ 1099511627776) :
    AFn Tryz.prog 108 [.vptr j 10 1 0 0] ⟨B, T⟩ (fun e σ' => e = .ret (AV.vptr T.length 10 1 0 0) ∧
      σ' = ⟨B, ((T ++ [Tok.vec [kn0 false]]).set b (.len (n + 1))).set j (.vec [.agg [a0, a1, a2, a3, a4, a5, a6, a7, a8, .slice (xs ++ [AV.vptr T.length 10 1 0 0]) (.own b 1)]])⟩) := by
  have hjl := (List.getElem?_eq_some_iff.1 hj).1
  have hbl := (List.getElem?_eq_some_iff.1 hb).1
  have hj1 : (T ++ [Tok.vec [kn0 false]])[j]? = some (.vec [.agg [a0, a1, a2, a3, a4, a5, a6, a7, a8, .slice xs (.own b 1)]]) := by rw [List.getElem?_append_left hjl]; exact hj
  have hb1 : (T ++ [Tok.vec [kn0 false]])[b]? = some (.len n) := by rw [List.getElem?_append_left hbl]; exact hb
  have hj2 : ((T ++ [Tok.vec [kn0 false]]).set b (.len (n + 1)))[j]? = some (.vec [.agg [a0, a1, a2, a3, a4, a5, a6, a7, a8, .slice xs (.own b 1)]]) := by rw [List.getElem?_set_ne (Ne.symm hjb)]; exact hj1
  refine AFn.en [2] Tryz.func108 ?_
  repeat' first | refine A.boxv (z := 10) rfl rfl (smallLen_eq _) (snocK_eq _ _ _) ?_ | refine A.vnil rfl ?_ | refine .s1 ?_ | (refine .q ?_ ?_ <;> intro hc) | refine A.vload rfl rfl hj1 rfl rfl rfl ?_ | refine A.append (n := n) rfl rfl rfl rfl rfl rfl rfl hb1 hn rfl (by dsimp only [List.length_cons, List.length_nil]; omega) (by dsimp only [List.length_cons, List.length_nil]; omega) (setTK_eq (by simp; omega)) ?_ | refine A.vstore (agg := true) rfl rfl rfl rfl hj2 rfl rfl rfl rfl rfl (setTK_eq (by simp; omega)) ?_ | fail
  exact ⟨rfl, rfl⟩
theorem pAdd (p : Path) (x : Step) (hp : p.length ≤ 2097152) : PFn Tryz.prog 67 [.slice (p.map Step.enc) .no, x.enc] (.slice ((p ++ [x]).map Step.enc) .no) := by
  refine AFn.plain (by have := Step.closedL (p ++ [x]); simp only [AV.closed, this]; rfl) (by simp [AV.closedL, AV.closed, Step.closedL, Step.enc]) (AFn.en [4] Tryz.func67 ?_)
  have m1 : (p.map Step.enc).length = p.length := List.length_map ..
  repeat' first | refine .s1 ?_ | (refine .q ?_ ?_ <;> intro hc) | refine A.make0 (n := p.length + 1) rfl rfl rfl rfl rfl (by omega) (by dsimp only; omega) (by omega) rfl rfl ?_ | refine A.append (n := 0) rfl rfl rfl rfl rfl rfl rfl rfl rfl (Step.fitsAll p) (by dsimp only; omega) (by omega) rfl ?_ | refine A.append (n := 0 + (p.map Step.enc).length) rfl rfl rfl rfl rfl rfl rfl rfl (by simp) rfl (by dsimp only [List.length_cons, List.length_nil]; omega) (by dsimp only [List.length_cons, List.length_nil]; omega) rfl ?_ | fail
  refine Fin.ret1 rfl (Weak.no ?_)
  have e : ([] ++ p.map Step.enc ++ [x.enc]) = (p ++ [x]).map Step.enc := by simp
  show WeakL _ ((p ++ [x]).map Step.enc)
  rw [← e]
  exact WeakL.refl _
def needFs2 : List Field := [{ name := "Table", type := 9, offset := 0, embedded := false, tag := "", pkgPath := "", byteOffset := 0 }, { name := "Key", type := 9, offset := 1, embedded := false, tag := "", pkgPath := "", byteOffset := 16 }]
theorem eq_need2 : EqT Tryz.prog 77 needFs2 := ⟨Tryz.underlying77, by kernel_rfl, by kernel_rfl, by decide⟩
theorem need_eq (x y : Need) : eqFs Tryz.prog needFs2 0 [.str x.table, .str x.key] [.str y.table, .str y.key] = some (decide (x = y)) := by
  have : eqFs Tryz.prog needFs2 0 [.str x.table, .str x.key] [.str y.table, .str y.key] = some (x.table == y.table && (x.key == y.key && true)) := rfl
  rw [this]
  obtain ⟨a, b⟩ := x
  obtain ⟨c, e⟩ := y
  congr 1
  rw [Bool.eq_iff_iff]
  simp
theorem Need.closedL (l : List Need) : AV.closedL (l.map Need.enc) = true := closedL_map Need.closed l
@[simp] theorem lowL_Need (n m : Nat) (l : List Need) : AV.lowL n m (List.map Need.enc l) = true := AV.lowL_of_closed n m _ (Need.closedL l)
theorem sIndexNeed (l : List Need) (x : Need) (hl : l.length ≤ 9223372036854775807) : PFn Tryz.prog 105 [.slice (l.map Need.enc) .no, x.enc] (.int .i64 (idxFrom (fun y => decide (x = y)) l 0)) := by
  refine AFn.plain rfl (by simp [AV.closed, AV.closedL, Need.closedL, Need.closed]) (AFn.en [4] Tryz.func105 ?_)
  refine .gob ?_
  refine HCode.forK l.length (fun k => [(8, .int .i64 k), (7, .int .i64 l.length), (0, .slice (l.map Need.enc) .no), (3, .rptr x.enc)]) (fun _ => ⟨[], []⟩) (fun k => idxFrom (fun y => decide (x = y)) l 0 = idxFrom (fun y => decide (x = y)) (l.drop k) k) ⟨rfl, rfl, rfl, rfl, trivial⟩ rfl rfl fun k hk hp => ?_
  by_cases h1 : k < l.length
  · have d1 : decide ((k : Int) < (l.length : Int)) = true := by simp [h1]
    have x1 := map_get' (f := Need.enc) h1
    have hd := idxFrom_drop (p := fun y => decide (x = y)) h1
    have hq := need_eq x l[k]
    repeat' first | refine .s1 ?_ | (refine .q ?_ ?_ <;> intro hc) | refine A.eqT eq_need2 rfl rfl hq ?_ | fail
    · refine Fin.ret1 rfl (Weak.eq ?_)
      rw [hp, hd, if_pos hc]
    · exact ⟨h1, ⟨rfl, rfl, rfl, rfl, trivial⟩, by simp [belowS, AV.low, Need.enc, AV.lowL], rfl, rfl, by rw [hp, hd, if_neg (by rw [hc]; decide)]⟩
  · have d1 : decide ((k : Int) < (l.length : Int)) = false := by simp; omega
    refine .go ?_
    refine Fin.ret1 rfl (Weak.eq ?_)
    rw [hp, List.drop_eq_nil_of_le (by omega), idxFrom]
theorem sContainsNeed (l : List Need) (x : Need) (hl : l.length ≤ 9223372036854775807) : PFn Tryz.prog 63 [.slice (l.map Need.enc) .no, x.enc] (.bool (decide (x ∈ l))) := by
  have h := sIndexNeed l x hl
  refine AFn.plain rfl (by simp [AV.closed, AV.closedL, Need.closedL, Need.closed]) (AFn.en [4] Tryz.func63 ?_)
  refine .gob ?_
  refine Fin.rb ?_
  have := idx_any (fun y => decide (x = y)) l
  rw [show decide (idxFrom (fun y => decide (x = y)) l 0 ≥ 0) = decide (0 ≤ idxFrom (fun y => decide (x = y)) l 0) from rfl, this, Bool.eq_iff_iff, List.any_eq_true, decide_eq_true_eq]
  exact ⟨fun ⟨y, hy, e⟩ => by rw [decide_eq_true_eq] at e; exact e ▸ hy, fun h => ⟨x, h, by simp⟩⟩
def wkCs (s : Sch) (d : Dcm) (env : List Mem) (rd ly : AV) (F : List Fau) : List AV :=
  [.slice (s.defs.map Dfn.enc) .no, .str s.query, .str s.mutation, .slice (d.ops.map Opr.enc) .no, .slice (d.frags.map Frg.enc) .no, .slice (env.map Mem.enc) .no, rd, ly, .slice (F.map Fau.enc) (.own 0 2)]
theorem eBad (s : Sch) (d : Dcm) (env : List Mem) (rd ly : AV) (B : List Ob) (T : List Tok) (F : List Fau) (j : Nat) (p : Path) (e : Int) {a0 a1 a2 a3 a4 a5 a6 a7 a8 a9 : AV} (h0 : T[0]? = some (.len F.length)) (hj : T[j]? = some (.vec [.agg [a0, a1, a2, a3, a4, a5, a6, a7, a8, a9]])) (h0j : j ≠ 0) (hF : F.length ≤ 68719476736) :
    AFn Tryz.prog 60 [.ptr 0 0, .vptr j 10 1 0 0, .slice (p.map Step.enc) .no, .int .i64 e] ⟨.cells (wkCs s d env rd ly F) :: B, T⟩
      (fun r σ' => r = .ret (.tup []) ∧ σ' = ⟨.cells (wkCs s d env rd ly (F ++ [⟨p, e⟩])) :: B, (T.set j (.vec [.agg [.int .i64 3, a1, a2, a3, a4, a5, a6, a7, a8, a9]])).set 0 (.len (F.length + 1))⟩) := by
  have hjl := (List.getElem?_eq_some_iff.1 hj).1
  have h0' : ∀ t : Tok, (T.set j t)[0]? = some (.len F.length) := fun t => by rw [List.getElem?_set_ne h0j]; exact h0
  have hml : (F.map Fau.enc).length = F.length := List.length_map _
  refine AFn.en [] Tryz.func60 ?_
  unfold wkCs
  repeat' first | refine .s1 ?_ | (refine .q ?_ ?_ <;> intro hc) | refine A.vnil rfl ?_ | refine A.nlP rfl ?_ | refine A.vstore (agg := true) rfl rfl rfl rfl hj rfl rfl rfl rfl rfl (setTK_eq hjl) ?_ | refine A.append (n := F.length) rfl rfl rfl rfl rfl rfl rfl (h0' _) hml rfl (by dsimp only [List.length_cons, List.length_nil]; omega) (by dsimp only [List.length_cons, List.length_nil]; omega) (setTK_eq (by simp only [List.length_set]; omega)) ?_ | fail
  refine ⟨rfl, ?_⟩
  rw [List.map_append]
  rfl
theorem eNull (s : Sch) (d : Dcm) (env : List Mem) (rd ly : AV) (B : List Ob) (T : List Tok) (F : List Fau) (j : Nat) (p : Path) {a0 a2 a3 a4 a5 a6 a7 a8 a9 : AV} (h0 : T[0]? = some (.len F.length)) (hj : T[j]? = some (.vec [.agg [a0, .bool true, a2, a3, a4, a5, a6, a7, a8, a9]])) (h0j : j ≠ 0) (hF : F.length ≤ 68719476736) :
    AFn Tryz.prog 61 [.ptr 0 0, .vptr j 10 1 0 0, .slice (p.map Step.enc) .no] ⟨.cells (wkCs s d env rd ly F) :: B, T⟩
      (fun r σ' => r = .ret (.tup []) ∧ σ' = ⟨.cells (wkCs s d env rd ly (F ++ [⟨p, 9⟩])) :: B, (T.set j (.vec [.agg [.int .i64 3, .bool true, a2, a3, a4, a5, a6, a7, a8, a9]])).set 0 (.len (F.length + 1))⟩) := by
  have hb := eBad s d env rd ly B T F j p 9 h0 hj h0j hF
  refine AFn.en [] Tryz.func61 ?_
  repeat' first | refine .s1 ?_ | (refine .q ?_ ?_ <;> intro hc) | refine A.vnil rfl ?_ | refine A.vload rfl rfl hj rfl rfl rfl ?_ | refine A.callA rfl hb (WeakL.refl _) ?_ | fail
  exact ⟨rfl, rfl⟩
theorem eNull0 (s : Sch) (d : Dcm) (env : List Mem) (rd ly : AV) (B : List Ob) (T : List Tok) (F : List Fau) (j : Nat) (p : Path) {a0 a2 a3 a4 a5 a6 a7 a8 a9 : AV} (hj : T[j]? = some (.vec [.agg [a0, .bool false, a2, a3, a4, a5, a6, a7, a8, a9]])) :
    AFn Tryz.prog 61 [.ptr 0 0, .vptr j 10 1 0 0, .slice (p.map Step.enc) .no] ⟨.cells (wkCs s d env rd ly F) :: B, T⟩
      (fun r σ' => r = .ret (.tup []) ∧ σ' = ⟨.cells (wkCs s d env rd ly F) :: B, T⟩) := by
  refine AFn.en [] Tryz.func61 ?_
  repeat' first | refine .s1 ?_ | (refine .q ?_ ?_ <;> intro hc) | refine A.vnil rfl ?_ | refine A.vload rfl rfl hj rfl rfl rfl ?_ | fail
  exact ⟨rfl, rfl⟩
end Go.Proofs.YtmfmdehfbpkgdaaGreatDoor
namespace Go.Proofs.YtmfmdehfbpkgdaaGreatDoor
open Go Go.Av
def lastR : List (List Need) → List Need
  | [] => []
  | [r] => r
  | _ :: q :: l => lastR (q :: l)
theorem readL_len (n : Need) : ∀ R : List (List Need), (readL n R).length = R.length
  | [] => rfl
  | [r] => by rw [readL]; split <;> rfl
  | r :: q :: l => by rw [readL, List.length_cons, readL_len n (q :: l)]; rfl
theorem readL_last (n : Need) : ∀ R : List (List Need), R ≠ [] → lastR (readL n R) = if n ∈ lastR R then lastR R else lastR R ++ [n]
  | [], h => absurd rfl h
  | [r], _ => by rw [readL, lastR]; split <;> rfl
  | r :: q :: l, _ => by
    have ih := readL_last n (q :: l) (by simp)
    rw [readL]
    have : ∀ X : List (List Need), X ≠ [] → lastR (r :: X) = lastR X := fun X hX => by
      cases X with
      | nil => exact absurd rfl hX
      | cons a b => rfl
    rw [this _ (by intro e; have := congrArg List.length e; rw [readL_len] at this; simp at this), ih]
    rfl
structure Tame (L : List Tbl) : Prop where
  fine : Fine 1048576 L
  vals : ∀ t ∈ L, ∀ r ∈ t.rows, ∀ m ∈ r.cols, m.v.size ≤ 1073741824 ∧ m.v.ok
structure EvOk (st : EvS) : Prop where
  F : st.F.length ≤ st.c
  R0 : st.R ≠ []
  RL : (lastR st.R).length ≤ st.c
  RN : st.R.length ≤ 1048576
  T : Tame st.L
structure Kept (st st' : EvS) : Prop where
  ok : EvOk st'
  c : st.c ≤ st'.c
  L : st'.L = st.L
  R : st'.R.length = st.R.length
theorem Kept.trans {a b c : EvS} (h : Kept a b) (k : Kept b c) : Kept a c := ⟨k.ok, Nat.le_trans h.c k.c, k.L.trans h.L, k.R.trans h.R⟩
theorem Kept.refl {a : EvS} (h : EvOk a) : Kept a a := ⟨h, Nat.le_refl _, rfl, rfl⟩
theorem EvOk.tick {st : EvS} (h : EvOk st) : Kept st st.tick := ⟨⟨Nat.le_succ_of_le h.F, h.R0, Nat.le_succ_of_le h.RL, h.RN, h.T⟩, Nat.le_succ _, rfl, rfl⟩
theorem EvOk.tickBad {st : EvS} (h : EvOk st) (p : Path) (e : Int) : Kept st (st.tick.bad p e) := ⟨⟨by
  show (st.F ++ [_]).length ≤ st.c + 1
  rw [List.length_append]
  exact Nat.succ_le_succ h.F, h.R0, Nat.le_succ_of_le h.RL, h.RN, h.T⟩, Nat.le_succ _, rfl, rfl⟩
theorem EvOk.tickRead {st : EvS} (h : EvOk st) (n : Need) : Kept st (st.tick.read n) := ⟨⟨Nat.le_succ_of_le h.F, by
  intro e
  have := congrArg List.length e
  show False
  have h2 : (readL n st.R).length = 0 := this
  rw [readL_len] at h2
  exact h.R0 (List.eq_nil_of_length_eq_zero h2), by
  show (lastR (readL n st.R)).length ≤ st.c + 1
  rw [readL_last n st.R h.R0]
  have := h.RL
  split
  · omega
  · rw [List.length_append]; simp only [List.length_cons, List.length_nil]; omega, by
  show (readL n st.R).length ≤ _
  rw [readL_len]; exact h.RN, h.T⟩, Nat.le_succ _, rfl, readL_len n st.R⟩
theorem EvOk.tickReadBad {st : EvS} (h : EvOk st) (n : Need) (p : Path) (e : Int) : Kept st ((st.tick.read n).bad p e) := by
  have k := h.tickRead n
  exact ⟨⟨by
    show (st.F ++ [_]).length ≤ st.c + 1
    rw [List.length_append]
    exact Nat.succ_le_succ h.F, k.ok.R0, k.ok.RL, k.ok.RN, k.ok.T⟩, k.c, k.L, k.R⟩
def PlKeeps (pl : Pl) : Prop := ∀ typ row sels p m st, EvOk st → Kept st (pl typ row sels p m st).2
mutual
theorem complM_ok (s : Sch) (pl : Pl) (hpl : PlKeeps pl) (tb : Str) (sels : List Sl) : ∀ (v : Val) (t : Typ) (p : Path) (st : EvS), EvOk st → Kept st (complM s pl tb sels v t p st).2
  | .mk k n str l m, t, p, st, h => by
    rw [complM]
    dsimp only
    split
    · split
      · exact h.tickBad p 9
      · exact h.tick
    split
    · split
      · exact h.tickBad p 7
      · exact h.tick.trans (complL_ok s pl hpl tb sels l (itemT t) p 0 st.tick h.tick.ok)
    split
    · split
      · exact h.tickBad p _
      · exact h.tick
    split
    · exact h.tickBad p 7
    unfold gotM
    split
    · exact h.tickReadBad _ p _
    split
    · split
      · exact h.tickReadBad _ p 9
      · exact h.tickRead _
    split
    · exact h.tickReadBad _ p 7
    · exact (h.tickRead _).trans (hpl _ _ _ _ _ _ (h.tickRead _).ok)
theorem complL_ok (s : Sch) (pl : Pl) (hpl : PlKeeps pl) (tb : Str) (sels : List Sl) : ∀ (l : List Val) (t : Typ) (p : Path) (i : Nat) (st : EvS), EvOk st → Kept st (complL s pl tb sels l t p i st).2
  | [], _, _, _, st, h => by rw [complL]; exact Kept.refl h
  | v :: l, t, p, i, st, h => by
    rw [complL]
    have h1 := complM_ok s pl hpl tb sels v t (p ++ [⟨[], i⟩]) st h
    exact h1.trans (complL_ok s pl hpl tb sels l t p (i + 1) _ h1.ok)
end
theorem fieldM_ok (s : Sch) (d : Dcm) (env : List Mem) (pl : Pl) (hpl : PlKeeps pl) (typ : Str) (row : Row) (g : Grp) (p : Path) (st : EvS) (h : EvOk st) : Kept st (fieldM s d env pl false typ row g p st).2 := by
  unfold fieldM
  dsimp only
  split
  · exact h.tick
  split
  · exact h.tickBad p _
  split
  · exact h.tickBad p 14
  · exact h.tick.trans (complM_ok s pl hpl _ _ _ _ _ _ h.tick.ok)
theorem foldN_ok {α : Type} (fm : α → EvS → Nd × EvS) (hf : ∀ g st, EvOk st → Kept st (fm g st).2) : ∀ (l : List α) (st : EvS), EvOk st → Kept st (foldN fm l st).2
  | [], st, h => Kept.refl h
  | g :: l, st, h => (hf g st h).trans (foldN_ok fm hf l _ (hf g st h).ok)
theorem placeM_ok (s : Sch) (d : Dcm) (env : List Mem) : ∀ n : Nat, PlKeeps (placeM s d env n false)
  | 0 => fun typ row sels p m st h => ⟨⟨Nat.le_trans h.F (Nat.le_add_right _ _), h.R0, Nat.le_trans h.RL (Nat.le_add_right _ _), h.RN, h.T⟩, Nat.le_add_right _ _, rfl, rfl⟩
  | n + 1 => fun typ row sels p m st h => by
    rw [placeM]
    exact h.tick.trans (foldN_ok _ (fun g st h => fieldM_ok s d env _ (placeM_ok s d env n) typ row g _ st h) _ _ h.tick.ok)
end Go.Proofs.YtmfmdehfbpkgdaaGreatDoor
namespace Go.Av
open Go
section
variable [Globals]
variable {P : Program} [Lay P] {N : Nat} {D : List Deferred} {K : AX → Slots → St → Prop} {s : Slots} {σ : St}
theorem row_push (w : World) (x y : Array Value) (T : TypeId) : rowW (pushW w (.cells x T)) w.heap.size y T = pushW w (.cells y T) := by
  have : (w.heap.push (.cells x T)).setIfInBounds w.heap.size (.cells y T (0, 0)) = w.heap.push (.cells y T) := by
    apply Array.ext
    · simp
    · intro i h1 h2
      rw [Array.getElem_setIfInBounds (by simpa using h1)]
      split
      · rename_i e; subst e; simp
      · rename_i e
        have : i < w.heap.size := by simp at h1; omega
        rw [Array.getElem_push_lt this, Array.getElem_push_lt this]
  unfold rowW pushW
  simp only [this]
theorem coin_store {T : TypeId} {ti : TI} (hT : ty? P T = some ti) (hz : ti.size = 1) {w : World} {x : Array Value} (hx : x.size = 1) {a : Act} {d1 : Tmp} {b : Bool} {ty : TypeId} {pos : String} {af : Array Edge} {next : Act → World → Prop} {Q : Exit → Act → World → Prop}
    (ha : a.eval (.tmp d1) = .pointer (some ⟨w.heap.size, 0, none⟩)) (h : next (a.put none undef) (pushW w (.cells #[.bool b] T))) :
    Oper.wp P ⟨none, .store T (.tmp d1) (.const (.bool b)), ty, pos, af, none⟩ a (pushW w (.cells x T)) next Q := by
  have hh : (pushW w (.cells x T)).heap[w.heap.size]? = some (.cells x T (0, 0)) := push_new w _
  have hst := run_storeCells_at P w.heap.size 0 T [.bool b] 0 x (pushW w (.cells x T)) hh (by simp [hx]) (by intro u hu; simp at hu; subst hu; rfl)
  rw [setRow_eq_rowW hh, row_push] at hst
  have e2 : (x.toList.take 0 ++ [Value.bool b] ++ x.toList.drop (0 + [Value.bool b].length)).toArray = #[.bool b] := by
    have : x.toList.drop 1 = [] := by rw [List.drop_eq_nil_iff]; simp [hx]
    simp [this]
  have e3 : (a.eval (.const (.bool b))).cells.toList = [.bool b] := rfl
  have e4 : (a.eval (.const (.bool b))).cells.size = 1 := rfl
  unfold Oper.wp
  simp only [execOp, ha, Instr.storeAt, Instr.sureAddr, storeVar, Sem.run_bind, Sem.run_pure, Result.andThen, run_sizeOf' hT, hz, e3, e4, ne_eq, not_true_eq_false, if_false]
  rw [hst]
  simp only [Oper.upon]
  rw [e2]
  exact h
theorem wpOp_of {ops : Array Oper} {Q : Exit → Act → World → Prop} {i : Nat} {K : Act → World → Prop} {a : Act} {w : World} {o : Oper} (h : ops[i]? = some o) (hg : o.guard = none) (hh : o.wp P a w K Q) : wpOp P ops Q i K a w := by
  unfold wpOp
  rw [h]
  dsimp only
  rw [if_pos (by unfold Region.wanted; rw [hg])]
  exact .inl hh
def coinR (ops : Array Oper) : Bool :=
  decide (Region.ready .any ops (Array.replicate 4 false) = [0]) && (decide (Region.ready .any ops ((Array.replicate 4 false).setIfInBounds 0 true) = [1, 2]) && (decide (Region.ready .any ops (((Array.replicate 4 false).setIfInBounds 0 true).setIfInBounds 1 true) = [2]) && (decide (Region.ready .any ops (((Array.replicate 4 false).setIfInBounds 0 true).setIfInBounds 2 true) = [1]) && (decide (Region.ready .any ops ((((Array.replicate 4 false).setIfInBounds 0 true).setIfInBounds 1 true).setIfInBounds 2 true) = [3]) && (decide (Region.ready .any ops ((((Array.replicate 4 false).setIfInBounds 0 true).setIfInBounds 2 true).setIfInBounds 1 true) = [3]) && (decide (Region.ready .any ops (((((Array.replicate 4 false).setIfInBounds 0 true).setIfInBounds 1 true).setIfInBounds 2 true).setIfInBounds 3 true) = []) && (decide (Region.ready .any ops (((((Array.replicate 4 false).setIfInBounds 0 true).setIfInBounds 2 true).setIfInBounds 1 true).setIfInBounds 3 true) = []))))))))
theorem HCode.coin {id : Nat} {d1 d2 : Tmp} {T : TypeId} {ti : TI} {y1 y2 y3 y4 : TypeId} {p1 p2 p3 p4 : String} {a1 a2 a3 a4 : Array Edge} {ops : Array Oper}
    (hops : ops = #[⟨some d1, .alloc T, y1, p1, a1, none⟩, ⟨none, .store T (.tmp d1) (.const (.bool true)), y2, p2, a2, none⟩, ⟨none, .store T (.tmp d1) (.const (.bool false)), y3, p3, a3, none⟩, ⟨some d2, .load T (.tmp d1), y4, p4, a4, none⟩])
    (hT : ty? P T = some ti) (hz : ti.size = 1) (hg : ti.agg = false) (hmix : P.follows .mixedOrders = true) (hd1 : d1 < N) (hd2 : d2 < N)
    (hR : coinR ops = true)
    (h : ∀ b, K .normal ((d2, .bool b) :: (d1, .undef) :: s) σ) : HCode P N D (.region id ops true) K s σ := fun g w a hi hr ha hd => by
  unfold coinR at hR
  simp only [Bool.and_eq_true, decide_eq_true_eq] at hR
  obtain ⟨r0, r1, r2, r3, r4, r5, r6, r7⟩ := hR
  subst hops
  refine wp_region_any hmix ?_
  have hi1 := hi.drew (w.drawn + 1)
  have hx1 := Ext.drew g w (w.drawn + 1)
  generalize { w with drawn := w.drawn + 1 } = w1 at hi1 hx1
  obtain ⟨zv, hzv, hz1, hz2, hz3⟩ := run_zero' hT w1
  rw [hz] at hz2
  have fin : ∀ b : Bool, ∀ a' : Act, a' = ((a.put (some d1) (.pointer (some ⟨w1.heap.size, 0, none⟩))).put none undef).put none undef →
      Post g w N D K .normal (a'.put (some d2) (.bool b)) (pushW w1 (.cells #[.bool b] T)) := by
    rintro b a' rfl
    obtain ⟨n1, n2⟩ := new_data hi1 #[.bool b] T 0 (Nat.zero_le _)
    refine ⟨.normal, _, σ, _, rfl, ?_, ?_, hx1.trans n1, n2, ?_, h b⟩
    · simpa [Act.put] using ha
    · simpa [Act.put] using hd
    · refine SRep.put ?_ (by simpa [Act.put, ha] using hd2) rfl
      show SRep _ _ ((d1, .undef) :: s) (a.put (some d1) (.pointer (some ⟨w1.heap.size, 0, none⟩))).tmps
      exact SRep.put ((hr.mono hx1.le).mono n1.le) (by rw [ha]; exact hd1) trivial
  have e1 : (a.put (some d1) (.pointer (some ⟨w1.heap.size, 0, none⟩))).eval (.tmp d1) = .pointer (some ⟨w1.heap.size, 0, none⟩) := by
    simp [Act.eval, Act.put, Array.getD, ha, hd1]
  have ld : ∀ (b : Bool) (a' : Act) (Q : Exit → Act → World → Prop) (nx : Act → World → Prop), a'.eval (.tmp d1) = .pointer (some ⟨w1.heap.size, 0, none⟩) → nx (a'.put (some d2) (.bool b)) (pushW w1 (.cells #[.bool b] T)) →
      Oper.wp P ⟨some d2, .load T (.tmp d1), y4, p4, a4, none⟩ a' (pushW w1 (.cells #[.bool b] T)) nx Q := fun b a' Q nx ea hn => by
    have hl := run_loadVar_mem hT (w := pushW w1 (.cells #[.bool b] T)) (b := w1.heap.size) (o := 0) (V := .bool b) (fun j u hj => by
      rw [Nat.zero_add, new_data_cell]; exact hj) (fun e => by rw [hg] at e; cases e) (fun _ => rfl)
    unfold Oper.wp
    simp only [execOp, ea, Instr.loadAt, Instr.sureAddr, Sem.run_bind, Sem.run_pure, Result.andThen, hl]
    exact hn
  have st : ∀ (b : Bool) (x : Array Value) (a' : Act) (Q : Exit → Act → World → Prop) (nx : Act → World → Prop) (y : TypeId) (p : String) (af : Array Edge), x.size = 1 → a'.eval (.tmp d1) = .pointer (some ⟨w1.heap.size, 0, none⟩) → nx (a'.put none undef) (pushW w1 (.cells #[.bool b] T)) →
      Oper.wp P ⟨none, .store T (.tmp d1) (.const (.bool b)), y, p, af, none⟩ a' (pushW w1 (.cells x T)) nx Q := fun b x a' Q nx y p af hx ea hn => coin_store hT hz hx ea hn
  show wpAny P .any _ _ 4 (Array.replicate 4 false) a w1
  rw [wpAny]
  refine ⟨fun e => (by rw [r0] at e; cases e), fun i hi' => ?_⟩
  rw [r0] at hi'; obtain rfl := List.mem_singleton.1 hi'
  refine wpOp_of (o := ⟨some d1, .alloc T, y1, p1, a1, none⟩) rfl rfl ?_
  unfold Oper.wp
  simp only [execOp, Instr.alloc, hzv, newVar, newRow, newObj, Sem.run_bind, Result.andThen, Sem.run]
  show wpAny P .any _ _ 3 _ (a.put (some d1) (.pointer (some ⟨w1.heap.size, 0, none⟩))) (pushW w1 (.cells zv.cells T))
  rw [wpAny]
  refine ⟨fun e => (by rw [r1] at e; cases e), fun i hi' => ?_⟩
  rw [r1] at hi'
  simp only [List.mem_cons, List.not_mem_nil, or_false] at hi'
  rcases hi' with rfl | rfl
  · refine wpOp_of (o := ⟨none, .store T (.tmp d1) (.const (.bool true)), y2, p2, a2, none⟩) rfl rfl ?_
    refine st true _ _ _ _ _ _ _ hz2 e1 ?_
    rw [wpAny]
    refine ⟨fun e => (by rw [r2] at e; cases e), fun i hi' => ?_⟩
    rw [r2] at hi'; obtain rfl := List.mem_singleton.1 hi'
    refine wpOp_of (o := ⟨none, .store T (.tmp d1) (.const (.bool false)), y3, p3, a3, none⟩) rfl rfl ?_
    refine st false _ _ _ _ _ _ _ rfl e1 ?_
    rw [wpAny]
    refine ⟨fun e => (by rw [r4] at e; cases e), fun i hi' => ?_⟩
    rw [r4] at hi'; obtain rfl := List.mem_singleton.1 hi'
    refine wpOp_of (o := ⟨some d2, .load T (.tmp d1), y4, p4, a4, none⟩) rfl rfl ?_
    refine ld false _ _ _ e1 ?_
    rw [wpAny]
    exact ⟨r6, fin false _ rfl⟩
  · refine wpOp_of (o := ⟨none, .store T (.tmp d1) (.const (.bool false)), y3, p3, a3, none⟩) rfl rfl ?_
    refine st false _ _ _ _ _ _ _ hz2 e1 ?_
    rw [wpAny]
    refine ⟨fun e => (by rw [r3] at e; cases e), fun i hi' => ?_⟩
    rw [r3] at hi'; obtain rfl := List.mem_singleton.1 hi'
    refine wpOp_of (o := ⟨none, .store T (.tmp d1) (.const (.bool true)), y2, p2, a2, none⟩) rfl rfl ?_
    refine st true _ _ _ _ _ _ _ rfl e1 ?_
    rw [wpAny]
    refine ⟨fun e => (by rw [r5] at e; cases e), fun i hi' => ?_⟩
    rw [r5] at hi'; obtain rfl := List.mem_singleton.1 hi'
    refine wpOp_of (o := ⟨some d2, .load T (.tmp d1), y4, p4, a4, none⟩) rfl rfl ?_
    refine ld true _ _ _ e1 ?_
    rw [wpAny]
    exact ⟨r7, fin true _ rfl⟩
end
end Go.Av
