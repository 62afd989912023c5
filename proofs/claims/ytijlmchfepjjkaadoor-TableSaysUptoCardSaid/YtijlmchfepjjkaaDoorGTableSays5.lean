/-
  The laws of tables: what they show when awake.
  Plain laws of tables: which may be; what is found behind a row that is put, and behind a cut.
  The package letters: Letter, Digit, Name. The package token: digits, whole, power, number, Number.
  The package token: whole, power, number, Number.
-/
import Derived.Test.YtijlmchfepjjkaaDoorGTableSays4
import Derived.Test.YtijlmchfepjjkaaDoorAvMap
import Derived.Test.YtijlmchfepjjkaaDoorGTableSays1
namespace Go.Proofs.YtijlmchfepjjkaaDoor
open Go Go.Av
set_option maxRecDepth 100000
set_option maxHeartbeats 16000000
set_option linter.unusedVariables false
set_option linter.unusedSimpArgs false
attribute [local irreducible] HCode AOps PFn AFn Av.Step TStep

theorem fine_le {B B' : Nat} {l : List Tbl} (hf : Fine B l) (h : B ≤ B') : Fine B' l := ⟨Nat.le_trans hf.len h, fun t ht => Nat.le_trans (hf.rows t ht) h, fun t ht r hr => Nat.le_trans (hf.cols t ht r hr) h⟩
def kRow : Row := ⟨[107], [84], [], false⟩
def kTbl : List Tbl := [⟨[116], [kRow]⟩]
theorem val_pos (v : Val) : 0 < v.size := by cases v; rw [Val.size]; omega
theorem noFns : ValFns (fun _ => true) (fun _ => true) 0 := ⟨fun v h => by have := val_pos v; omega, fun v h => by have := val_pos v; omega⟩
theorem kIn : TblsIn 0 kTbl := by
  refine ⟨by decide, ?_, ?_, ?_, ?_⟩ <;> simp [kTbl, kRow]
theorem fine_k : Fine 1048576 kTbl := by refine ⟨by decide, ?_, ?_⟩ <;> simp [kTbl, kRow]
theorem fine_0 : Fine 1048576 [] := by refine ⟨by decide, ?_, ?_⟩ <;> simp
theorem kMay : tblsOk (fun _ => true) (fun _ => true) kTbl [] = true := by decide
theorem kPut : putG [] [116] kRow = kTbl := rfl
theorem kCut : (cutG kTbl [116] [107]).length = 1 := rfl

theorem weak_row {key typ : Str} {t : Tk} {b : Bool} : Weak (.agg [.str key, .str typ, .slice [] t, .bool b]) (Row.mk key typ [] b).enc := Weak.agg (WeakL.cons (Weak.refl _) (WeakL.cons (Weak.refl _) (WeakL.cons (Weak.no (WeakL.refl _)) (WeakL.refl _))))
theorem weak_nil : Weak (.slice [] .nil) (Tbls.enc []) := Weak.no (WeakL.refl _)
theorem awake27 : PFn Tryd.prog 22 [] (.bool true) := by
  refine AFn.plain rfl rfl (AFn.enter [0] Tryd.func22 rfl rfl rfl rfl rfl (by decide) ?_)
  have h1 := find [] ⟨[116], [107]⟩ (by decide) (by simp) (by simp)
  have h2 := put [] [116] kRow fine_0.len fine_0.rows fine_0.cols (by decide)
  rw [kPut] at h2
  have h3 := find kTbl ⟨[116], [107]⟩ (by decide) (by simp [kTbl, kRow]) (by simp [kTbl, kRow])
  have h4 := tableMay noFns (by decide) kTbl kIn
  rw [kMay] at h4
  have h5 := cut kTbl [116] [107] fine_k.len fine_k.rows fine_k.cols
  have e1 : findG [] ⟨[116], [107]⟩ = gotNone := rfl
  have e3 : findG kTbl ⟨[116], [107]⟩ = ⟨kRow, true, 0⟩ := rfl
  rw [e1] at h1
  rw [e3] at h3
  repeat' first
    | refine .seq ?_ | refine .rg ?_ | refine .rd ?_ | refine .block ?_ | refine .scope ?_ | refine .skip ?_ | refine .label ?_ | refine .exit ?_ | refine .ret ?_
    | refine .ct ?_ | refine .cf ?_ | refine .cy ?_ | refine .cn ?_ | (refine .cond rfl ?_ ?_ <;> intro hc)
    | refine A.nil_seq ?_ | refine .nl ?_ | refine .dd ?_ | refine .ys ?_ | refine .no ?_ | (refine A.guard rfl ?_ ?_ <;> intro hc)
    | refine .lb ?_ | refine .ln ?_ | refine .ls ?_ | refine .pv ?_ | refine .ix ?_ | refine .pt ?_ | refine .pf ?_ | refine .bx ?_ | refine .al ?_ | refine .st ?_ | refine .ad ?_ | refine .sb ?_ | refine .mf ?_ | refine .cl ?_ | refine .cw ?_ | refine .ck ?_
    | refine A.call rfl h1 (WeakL.cons weak_nil (WeakL.refl _)) ?_ | refine A.call rfl h2 (WeakL.cons weak_nil (WeakL.cons (Weak.refl _) (WeakL.cons weak_row (WeakL.refl _)))) ?_ | refine A.call rfl h3 (WeakL.refl _) ?_ | refine A.call rfl h4 (WeakL.refl _) ?_ | refine A.call rfl h5 (WeakL.refl _) ?_ | fail
  all_goals exact Fin.ret1 rfl (Weak.refl _)

def wI (n : Int) : Int := IntKind.i64.wrap n
end Go.Proofs.YtijlmchfepjjkaaDoor
namespace Go.Proofs.YtijlmchfepjjkaaDoor
open Go Go.Av
set_option maxRecDepth 100000
set_option linter.unusedVariables false
set_option linter.unusedSimpArgs false

theorem in_of {l : List Tbl} (h : tabSize l ≤ 1048576) : TblsIn 1048576 l := by
  have hf := fine_of (Nat.le_refl (tabSize l))
  refine ⟨Nat.le_trans hf.len h, fun t ht => ?_, fun t ht => Nat.le_trans (hf.rows t ht) h, fun t ht r hr => ?_, fun t ht r hr m hm => ?_⟩
  · have h1 := sumSize_mem (size := Tbl.size) ht
    have h4 : t.size = t.name.length + sumSize Row.size t.rows + 2 := rfl
    unfold tabSize at h; omega
  · have h1 := sumSize_mem (size := Tbl.size) ht
    have h2 := sumSize_mem (size := Row.size) hr
    have h4 : t.size = t.name.length + sumSize Row.size t.rows + 2 := rfl
    have h5 : r.size = r.key.length + r.typ.length + sumSize Mem.size r.cols + 4 := rfl
    have h6 := hf.cols t ht r hr
    unfold tabSize at h h6
    exact ⟨by omega, by omega, by omega⟩
  · have h1 := sumSize_mem (size := Tbl.size) ht
    have h2 := sumSize_mem (size := Row.size) hr
    have h3 := sumSize_mem (size := Mem.size) hm
    have h4 : t.size = t.name.length + sumSize Row.size t.rows + 2 := rfl
    have h5 : r.size = r.key.length + r.typ.length + sumSize Mem.size r.cols + 4 := rfl
    have h6 : m.size = m.name.length + 2 + m.v.size := rfl
    unfold tabSize at h
    exact ⟨by omega, by omega⟩

section
variable (gv st : Val → Bool)
theorem rowsOk_iff : ∀ (l : List Row) (ks : List Str), rowsOk gv st l ks = true ↔ (∀ r ∈ l, r.key ∉ ks) ∧ (l.map Row.key).Nodup ∧ ∀ r ∈ l, rowOk gv st r = true
  | [], ks => by simp [rowsOk]
  | r :: l, ks => by
    rw [rowsOk]
    simp only [Bool.and_eq_true, Bool.not_eq_true', decide_eq_false_iff_not, rowsOk_iff l, List.mem_append, List.mem_singleton, not_or, List.map_cons, List.nodup_cons, List.mem_map, not_exists, not_and, List.mem_cons, forall_eq_or_imp]
    constructor
    · rintro ⟨h1, h2, h3, h4, h5⟩
      exact ⟨⟨h1, fun x hx => (h3 x hx).1⟩, ⟨fun x hx => (h3 x hx).2.1, h4⟩, h2, h5⟩
    · rintro ⟨⟨h1, h2⟩, ⟨h3, h4⟩, h5, h6⟩
      exact ⟨h1, h5, fun x hx => ⟨h2 x hx, h3 x hx, by simp⟩, h4, h6⟩
theorem tblsOk_iff : ∀ (l : List Tbl) (ns : List Str), tblsOk gv st l ns = true ↔ (∀ t ∈ l, t.name ∉ ns) ∧ (l.map Tbl.name).Nodup ∧ ∀ t ∈ l, good t.name = true ∧ rowsOk gv st t.rows [] = true
  | [], ns => by simp [tblsOk]
  | t :: l, ns => by
    rw [tblsOk]
    simp only [Bool.and_eq_true, Bool.not_eq_true', decide_eq_false_iff_not, tblsOk_iff l, List.mem_append, List.mem_singleton, not_or, List.map_cons, List.nodup_cons, List.mem_map, not_exists, not_and, List.mem_cons, forall_eq_or_imp]
    constructor
    · rintro ⟨h1, h2, h3, h4, h5, h6⟩
      exact ⟨⟨h1, fun x hx => (h4 x hx).1⟩, ⟨fun x hx => (h4 x hx).2.1, h5⟩, ⟨h2, h3⟩, h6⟩
    · rintro ⟨⟨h1, h2⟩, ⟨h3, h4⟩, ⟨h5, h6⟩, h7⟩
      exact ⟨h1, h5, h6, fun x hx => ⟨h2 x hx, h3 x hx, by simp⟩, h4, h7⟩
end

/-! The first of a list that is as is asked. -/
theorem fidx_none {α : Type} {p : α → Bool} : ∀ {l : List α}, fidx p l = none → ∀ x ∈ l, p x = false
  | [], _, x, hx => by simp at hx
  | y :: l, h, x, hx => by
    rw [fidx] at h
    by_cases c : p y = true
    · rw [if_pos c] at h; cases h
    · rw [if_neg c] at h
      have h' : fidx p l = none := by cases e : fidx p l <;> simp_all
      rcases List.mem_cons.1 hx with rfl | hx
      · simpa using c
      · exact fidx_none h' x hx
theorem fidx_some {α : Type} {p : α → Bool} {l : List α} {i : Nat} (h : fidx p l = some i) : ∃ hi : i < l.length, p l[i] = true := by
  rcases fidx_spec p l 0 with ⟨_, h2⟩ | ⟨j, hj, _, h2, h3⟩
  · rw [h2] at h; cases h
  · rw [h2] at h; cases h; exact ⟨hj, h3⟩
theorem map_set_same {α β : Type} {f : α → β} : ∀ {l : List α} {i : Nat} {y : α}, (∀ h : i < l.length, f y = f l[i]) → (l.set i y).map f = l.map f
  | [], i, y, _ => by simp
  | x :: l, 0, y, h => by simp [h (by simp)]
  | x :: l, i + 1, y, h => by
    simp only [List.set_cons_succ, List.map_cons]
    rw [map_set_same (l := l) (fun hi => h (Nat.succ_lt_succ hi))]
theorem mem_set {α : Type} : ∀ {l : List α} {i : Nat} {y x : α}, x ∈ l.set i y → x ∈ l ∨ x = y := fun h => List.mem_or_eq_of_mem_set h

theorem cutRows_sub (rows : List Row) (key : Str) : (cutRows rows key).Sublist rows := by
  unfold cutRows
  split
  · exact List.Sublist.refl _
  · rename_i k hk
    have h1 : (rows.drop (k + 1)).Sublist (rows.drop k) := by
      have : rows.drop (k + 1) = (rows.drop k).drop 1 := by rw [List.drop_drop]
      rw [this]; exact List.drop_sublist _ _
    have h2 := h1.append_left (rows.take k)
    rwa [List.take_append_drop] at h2
section
variable {gv st : Val → Bool}
theorem cutRows_ok {rows : List Row} {key : Str} (h : rowsOk gv st rows [] = true) : rowsOk gv st (cutRows rows key) [] = true := by
  rw [rowsOk_iff] at h ⊢
  have hs := cutRows_sub rows key
  exact ⟨fun _ _ => by simp, (hs.map Row.key).nodup h.2.1, fun r hr => h.2.2 r (hs.subset hr)⟩
theorem cutG_ok {l : List Tbl} {name key : Str} (h : tblsOk gv st l [] = true) : tblsOk gv st (cutG l name key) [] = true := by
  unfold cutG
  split
  · exact h
  · rename_i i hi
    obtain ⟨hil, hp⟩ := fidx_some hi
    rw [modAt_eq hil]
    rw [tblsOk_iff] at h ⊢
    refine ⟨fun _ _ => by simp, ?_, fun t ht => ?_⟩
    · rw [map_set_same (f := Tbl.name) (fun _ => rfl)]; exact h.2.1
    · rcases mem_set ht with ht | rfl
      · exact h.2.2 t ht
      · have := h.2.2 _ (List.getElem_mem hil)
        exact ⟨this.1, cutRows_ok this.2⟩
theorem putRows_ok {rows : List Row} {r : Row} (h : rowsOk gv st rows [] = true) : rowsOk gv st (putRows rows r) [] = rowOk gv st r := by
  rw [Bool.eq_iff_iff]
  rw [rowsOk_iff] at h ⊢
  unfold putRows
  split
  · rename_i hn
    have hn' := fidx_none hn
    constructor
    · exact fun h2 => h2.2.2 r (by simp)
    · intro hr
      refine ⟨fun _ _ => by simp, ?_, fun x hx => ?_⟩
      · rw [List.map_append, List.nodup_append]
        refine ⟨h.2.1, by simp, fun a ha b hb => ?_⟩
        obtain ⟨x, hx, rfl⟩ := List.mem_map.1 ha
        have hb' : b = r.key := by simpa using hb
        subst hb'
        have := hn' x hx
        simpa using this
      · rcases List.mem_append.1 hx with hx | hx
        · exact h.2.2 x hx
        · have : x = r := by simpa using hx
          rw [this]; exact hr
  · rename_i k hk
    obtain ⟨hkl, hp⟩ := fidx_some hk
    constructor
    · exact fun h2 => h2.2.2 r (List.mem_set hkl _)
    · intro hr
      refine ⟨fun _ _ => by simp, ?_, fun x hx => ?_⟩
      · rw [map_set_same (f := Row.key) (fun _ => by simpa using (beq_iff_eq.1 hp).symm)]; exact h.2.1
      · rcases mem_set hx with hx | rfl
        · exact h.2.2 x hx
        · exact hr
theorem alone_ok (name : Str) (r : Row) : tblsOk gv st [⟨name, [r]⟩] [] = (good name && rowOk gv st r) := by
  rw [Bool.eq_iff_iff, tblsOk_iff]
  simp [rowsOk_iff]
theorem putG_ok {l : List Tbl} {name : Str} {r : Row} (h : tblsOk gv st l [] = true) : tblsOk gv st (putG l name r) [] = tblsOk gv st [⟨name, [r]⟩] [] := by
  rw [alone_ok]
  unfold putG
  split
  · rename_i hn
    have hn' := fidx_none hn
    rw [Bool.eq_iff_iff]
    rw [tblsOk_iff] at h ⊢
    rw [Bool.and_eq_true]
    constructor
    · intro h2
      have := h2.2.2 ⟨name, [r]⟩ (by simp)
      rw [rowsOk_iff] at this
      exact ⟨this.1, this.2.2.2 r (by simp)⟩
    · rintro ⟨hg, hr⟩
      refine ⟨fun _ _ => by simp, ?_, fun x hx => ?_⟩
      · rw [List.map_append, List.nodup_append]
        refine ⟨h.2.1, by simp, fun a ha b hb => ?_⟩
        obtain ⟨x, hx, rfl⟩ := List.mem_map.1 ha
        have hb' : b = name := by simpa using hb
        subst hb'
        have := hn' x hx
        simpa using this
      · rcases List.mem_append.1 hx with hx | hx
        · exact h.2.2 x hx
        · have : x = ⟨name, [r]⟩ := by simpa using hx
          rw [this]
          exact ⟨hg, by rw [rowsOk_iff]; simp [hr]⟩
  · rename_i i hi
    obtain ⟨hil, hp⟩ := fidx_some hi
    have hname : l[i].name = name := beq_iff_eq.1 hp
    have hgn := ((tblsOk_iff gv st l []).1 h).2.2 _ (List.getElem_mem hil)
    rw [← hname, hgn.1, Bool.true_and, modAt_eq hil, ← putRows_ok hgn.2 (r := r), Bool.eq_iff_iff]
    rw [tblsOk_iff] at h ⊢
    constructor
    · exact fun h2 => (h2.2.2 _ (List.mem_set hil _)).2
    · intro hr
      refine ⟨fun _ _ => by simp, ?_, fun t ht => ?_⟩
      · rw [map_set_same (f := Tbl.name) (fun _ => rfl)]; exact h.2.1
      · rcases mem_set ht with ht | rfl
        · exact h.2.2 t ht
        · exact ⟨hgn.1, hr⟩
end
end Go.Proofs.YtijlmchfepjjkaaDoor
namespace Go.Proofs.YtijlmchfepjjkaaDoor
open Go Go.Av
set_option maxRecDepth 100000
set_option maxHeartbeats 8000000
set_option linter.unusedVariables false
set_option linter.unusedSimpArgs false
attribute [local irreducible] HCode AOps PFn AFn Av.Step TStep

def digC (c : UInt8) : Bool := decide (48 ≤ c.toNat) && decide (c.toNat ≤ 57)
def letC (c : UInt8) : Bool := decide (97 ≤ c.toNat) && decide (c.toNat ≤ 122) || decide (65 ≤ c.toNat) && decide (c.toNat ≤ 90) || decide (c.toNat = 95)
theorem lDigit (c : UInt8) : PFn Tryd.prog 100 [.int .u8 (c.toNat : Int)] (.bool (digC c)) := by
  refine AFn.plain rfl rfl (AFn.enter [2] Tryd.func100 rfl rfl rfl rfl rfl (by decide) ?_)
  repeat' first
    | refine .seq ?_ | refine .rg ?_ | refine .rd ?_ | refine .block ?_ | refine .scope ?_ | refine .skip ?_ | refine .label ?_ | refine .exit ?_ | refine .ret ?_
    | refine .ct ?_ | refine .cf ?_ | refine .cy ?_ | refine .cn ?_ | (refine .cond rfl ?_ ?_ <;> intro hc)
    | refine A.nil_seq ?_ | refine .nl ?_ | refine .dd ?_ | refine .ys ?_ | refine .no ?_ | (refine A.guard rfl ?_ ?_ <;> intro hc)
    | refine .lb ?_ | refine .ln ?_ | refine .ls ?_ | refine .pv ?_ | refine .ix ?_ | refine .pt ?_ | refine .pf ?_ | refine .bx ?_ | refine .al ?_ | refine .st ?_ | refine .ad ?_ | refine .sb ?_ | refine .mf ?_ | refine .cl ?_ | refine .cw ?_ | refine .ck ?_ | fail
  all_goals
    refine Fin.ret1 rfl (Weak.eq (congrArg AV.bool ?_))
    unfold digC; rw [Bool.eq_iff_iff]; simp at *; omega
theorem lLetter (c : UInt8) : PFn Tryd.prog 99 [.int .u8 (c.toNat : Int)] (.bool (letC c)) := by
  refine AFn.plain rfl rfl (AFn.enter [2] Tryd.func99 rfl rfl rfl rfl rfl (by decide) ?_)
  repeat' first
    | refine .seq ?_ | refine .rg ?_ | refine .rd ?_ | refine .block ?_ | refine .scope ?_ | refine .skip ?_ | refine .label ?_ | refine .exit ?_ | refine .ret ?_
    | refine .ct ?_ | refine .cf ?_ | refine .cy ?_ | refine .cn ?_ | (refine .cond rfl ?_ ?_ <;> intro hc)
    | refine A.nil_seq ?_ | refine .nl ?_ | refine .dd ?_ | refine .ys ?_ | refine .no ?_ | (refine A.guard rfl ?_ ?_ <;> intro hc)
    | refine .lb ?_ | refine .ln ?_ | refine .ls ?_ | refine .pv ?_ | refine .ix ?_ | refine .pt ?_ | refine .pf ?_ | refine .bx ?_ | refine .al ?_ | refine .st ?_ | refine .ad ?_ | refine .sb ?_ | refine .mf ?_ | refine .cl ?_ | refine .cw ?_ | refine .ck ?_ | fail
  all_goals
    refine Fin.ret1 rfl (Weak.eq (congrArg AV.bool ?_))
    unfold letC; rw [Bool.eq_iff_iff]; simp at *; omega

theorem get_str {s : Str} {k : Nat} (h : k < s.length) : s[k]? = some s[k] := by simp [h]
/-- A name's letters; is it the first one? -/
def nmC : Bool → Str → Bool
  | _, [] => true
  | z, c :: r => (letC c || (!z && digC c)) && nmC false r
def nameB (s : Str) : Bool := nmC true s && decide (s ≠ [])
theorem nmC_drop {z : Bool} {s : Str} {k : Nat} (h : k < s.length) : nmC z (s.drop k) = ((letC s[k] || (!z && digC s[k])) && nmC false (s.drop (k + 1))) := by
  rw [List.drop_eq_getElem_cons h, nmC]
theorem lName (s : Str) (hs : s.length ≤ 9223372036854775806) : PFn Tryd.prog 57 [.str s] (.bool (nameB s)) := by
  refine AFn.plain rfl rfl (AFn.enter [2] Tryd.func57 rfl rfl rfl rfl rfl (by decide) ?_)
  repeat' first
    | refine .seq ?_ | refine .rg ?_ | refine .rd ?_ | refine .block ?_ | refine .scope ?_ | refine .skip ?_ | refine .label ?_ | refine .exit ?_ | refine .ret ?_
    | refine .ct ?_ | refine .cf ?_ | refine .cy ?_ | refine .cn ?_ | (refine .cond rfl ?_ ?_ <;> intro hc)
    | refine A.nil_seq ?_ | refine .nl ?_ | refine .dd ?_ | refine .ys ?_ | refine .no ?_ | (refine A.guard rfl ?_ ?_ <;> intro hc)
    | refine .lb ?_ | refine .ln ?_ | refine .ls ?_ | refine .pv ?_ | refine .ix ?_ | refine .pt ?_ | refine .pf ?_ | refine .bx ?_ | refine .al ?_ | refine .st ?_ | refine .ad ?_ | refine .sb ?_ | refine .mf ?_ | refine .cl ?_ | refine .cw ?_ | refine .ck ?_ | fail
  change HCode _ _ _ _ _ _ _
  refine HCode.loop (fun n σs σ => ∃ k : Nat, n = s.length - k ∧ k ≤ s.length ∧ nmC true s = nmC (k == 0) (s.drop k) ∧ σ = ⟨[], []⟩ ∧
    σs = [(6, .int .i64 k), (5, .int .i64 s.length), (0, .str s)])
    (s0 := [(6, .int .i64 (0 : Nat)), (5, .int .i64 s.length), (0, .str s)])
    ⟨rfl, rfl, rfl, trivial⟩ ⟨0, rfl, Nat.zero_le _, rfl, rfl, rfl⟩ ?_
  rintro n σs σ ⟨k, rfl, hk, hp, rfl, rfl⟩
  by_cases h1 : k < s.length
  · have d1 : decide ((k : Int) < (s.length : Int)) = true := by simp [h1]
    have x1 := get_str h1
    have hl := lLetter s[k]
    have hd := lDigit s[k]
    by_cases c1 : letC s[k] = true
    · have e1 : (!letC s[k]) = false := by rw [c1]; rfl
      repeat' first
        | refine .seq ?_ | refine .rg ?_ | refine .rd ?_ | refine .block ?_ | refine .scope ?_ | refine .skip ?_ | refine .label ?_ | refine .exit ?_ | refine .ret ?_
        | refine .ct ?_ | refine .cf ?_ | refine .cy ?_ | refine .cn ?_ | (refine .cond rfl ?_ ?_ <;> intro hc)
        | refine A.nil_seq ?_ | refine .nl ?_ | refine .dd ?_ | refine .ys ?_ | refine .no ?_ | (refine A.guard rfl ?_ ?_ <;> intro hc)
        | refine .lb ?_ | refine .ln ?_ | refine .ls ?_ | refine .pv ?_ | refine .ix ?_ | refine .pt ?_ | refine .pf ?_ | refine .bx ?_ | refine .al ?_ | refine .st ?_ | refine .ad ?_ | refine .sb ?_ | refine .mf ?_ | refine .cl ?_ | refine .cw ?_ | refine .ck ?_
        | refine A.index_s rfl rfl rfl rfl rfl (by assumption) ?_ | refine A.call rfl hl (WeakL.refl _) ?_ | refine A.call rfl hd (WeakL.refl _) ?_ | fail
      refine ⟨s.length - (k + 1), by omega, [(6, .int .i64 ((k + 1 : Nat) : Int)), (5, .int .i64 s.length), (0, .str s)], ⟨rfl, rfl, rfl, trivial⟩, by simp [belowS, AV.low], rfl, k + 1, rfl, by omega, ?_, rfl, rfl⟩
      rw [hp, nmC_drop h1, c1]; rfl
    · have e1 : (!letC s[k]) = true := by simpa using c1
      by_cases c2 : k = 0
      · have e2 : ((k : Int) == 0) = true := by simp [c2]
        repeat' first
          | refine .seq ?_ | refine .rg ?_ | refine .rd ?_ | refine .block ?_ | refine .scope ?_ | refine .skip ?_ | refine .label ?_ | refine .exit ?_ | refine .ret ?_
          | refine .ct ?_ | refine .cf ?_ | refine .cy ?_ | refine .cn ?_ | (refine .cond rfl ?_ ?_ <;> intro hc)
          | refine A.nil_seq ?_ | refine .nl ?_ | refine .dd ?_ | refine .ys ?_ | refine .no ?_ | (refine A.guard rfl ?_ ?_ <;> intro hc)
          | refine .lb ?_ | refine .ln ?_ | refine .ls ?_ | refine .pv ?_ | refine .ix ?_ | refine .pt ?_ | refine .pf ?_ | refine .bx ?_ | refine .al ?_ | refine .st ?_ | refine .ad ?_ | refine .sb ?_ | refine .mf ?_ | refine .cl ?_ | refine .cw ?_ | refine .ck ?_
          | refine A.index_s rfl rfl rfl rfl rfl (by assumption) ?_ | refine A.call rfl hl (WeakL.refl _) ?_ | refine A.call rfl hd (WeakL.refl _) ?_ | fail
        refine Fin.ret1 rfl (Weak.eq (congrArg AV.bool ?_))
        unfold nameB
        rw [hp, nmC_drop h1]; subst c2; simp [c1]
      · have e2 : ((k : Int) == 0) = false := by simp [c2]
        have e3 : (k == 0) = false := by simp [c2]
        by_cases c3 : digC s[k] = true
        · have e4 : (!digC s[k]) = false := by rw [c3]; rfl
          repeat' first
            | refine .seq ?_ | refine .rg ?_ | refine .rd ?_ | refine .block ?_ | refine .scope ?_ | refine .skip ?_ | refine .label ?_ | refine .exit ?_ | refine .ret ?_
            | refine .ct ?_ | refine .cf ?_ | refine .cy ?_ | refine .cn ?_ | (refine .cond rfl ?_ ?_ <;> intro hc)
            | refine A.nil_seq ?_ | refine .nl ?_ | refine .dd ?_ | refine .ys ?_ | refine .no ?_ | (refine A.guard rfl ?_ ?_ <;> intro hc)
            | refine .lb ?_ | refine .ln ?_ | refine .ls ?_ | refine .pv ?_ | refine .ix ?_ | refine .pt ?_ | refine .pf ?_ | refine .bx ?_ | refine .al ?_ | refine .st ?_ | refine .ad ?_ | refine .sb ?_ | refine .mf ?_ | refine .cl ?_ | refine .cw ?_ | refine .ck ?_
            | refine A.index_s rfl rfl rfl rfl rfl (by assumption) ?_ | refine A.call rfl hl (WeakL.refl _) ?_ | refine A.call rfl hd (WeakL.refl _) ?_ | fail
          refine ⟨s.length - (k + 1), by omega, [(6, .int .i64 ((k + 1 : Nat) : Int)), (5, .int .i64 s.length), (0, .str s)], ⟨rfl, rfl, rfl, trivial⟩, by simp [belowS, AV.low], rfl, k + 1, rfl, by omega, ?_, rfl, rfl⟩
          rw [hp, nmC_drop h1, e3, c3]; simp
        · have e4 : (!digC s[k]) = true := by simpa using c3
          repeat' first
            | refine .seq ?_ | refine .rg ?_ | refine .rd ?_ | refine .block ?_ | refine .scope ?_ | refine .skip ?_ | refine .label ?_ | refine .exit ?_ | refine .ret ?_
            | refine .ct ?_ | refine .cf ?_ | refine .cy ?_ | refine .cn ?_ | (refine .cond rfl ?_ ?_ <;> intro hc)
            | refine A.nil_seq ?_ | refine .nl ?_ | refine .dd ?_ | refine .ys ?_ | refine .no ?_ | (refine A.guard rfl ?_ ?_ <;> intro hc)
            | refine .lb ?_ | refine .ln ?_ | refine .ls ?_ | refine .pv ?_ | refine .ix ?_ | refine .pt ?_ | refine .pf ?_ | refine .bx ?_ | refine .al ?_ | refine .st ?_ | refine .ad ?_ | refine .sb ?_ | refine .mf ?_ | refine .cl ?_ | refine .cw ?_ | refine .ck ?_
            | refine A.index_s rfl rfl rfl rfl rfl (by assumption) ?_ | refine A.call rfl hl (WeakL.refl _) ?_ | refine A.call rfl hd (WeakL.refl _) ?_ | fail
          refine Fin.ret1 rfl (Weak.eq (congrArg AV.bool ?_))
          unfold nameB
          rw [hp, nmC_drop h1, e3]; simp [c1, c3]
  · have d1 : decide ((k : Int) < (s.length : Int)) = false := by simp; omega
    repeat' first
      | refine .seq ?_ | refine .rg ?_ | refine .rd ?_ | refine .block ?_ | refine .scope ?_ | refine .skip ?_ | refine .label ?_ | refine .exit ?_ | refine .ret ?_
      | refine .ct ?_ | refine .cf ?_ | refine .cy ?_ | refine .cn ?_ | (refine .cond rfl ?_ ?_ <;> intro hc)
      | refine A.nil_seq ?_ | refine .nl ?_ | refine .dd ?_ | refine .ys ?_ | refine .no ?_ | (refine A.guard rfl ?_ ?_ <;> intro hc)
      | refine .lb ?_ | refine .ln ?_ | refine .ls ?_ | refine .pv ?_ | refine .ix ?_ | refine .pt ?_ | refine .pf ?_ | refine .bx ?_ | refine .al ?_ | refine .st ?_ | refine .ad ?_ | refine .sb ?_ | refine .mf ?_ | refine .cl ?_ | refine .cw ?_ | refine .ck ?_ | fail
    refine Fin.ret1 rfl (Weak.eq (congrArg AV.bool ?_))
    unfold nameB
    rw [hp, List.drop_eq_nil_of_le (by omega), nmC]
    cases s <;> simp

/-- How many digits are ahead. -/
def digs : Str → Nat
  | [] => 0
  | c :: s => if digC c = true then digs s + 1 else 0
theorem digs_le : ∀ s : Str, digs s ≤ s.length
  | [] => Nat.le_refl _
  | c :: s => by
    have := digs_le s
    unfold digs; split <;> simp <;> omega
theorem digs_drop {s : Str} {k : Nat} (h : k < s.length) : digs (s.drop k) = if digC s[k] = true then digs (s.drop (k + 1)) + 1 else 0 := by
  rw [List.drop_eq_getElem_cons h, digs]
theorem tDigits (s : Str) (hs : s.length ≤ 9223372036854775806) : PFn Tryd.prog 167 [.str s] (.int .i64 (digs s)) := by
  refine AFn.plain rfl rfl (AFn.enter [2] Tryd.func167 rfl rfl rfl rfl rfl (by decide) ?_)
  repeat' first
    | refine .seq ?_ | refine .rg ?_ | refine .rd ?_ | refine .block ?_ | refine .scope ?_ | refine .skip ?_ | refine .label ?_ | refine .exit ?_ | refine .ret ?_
    | refine .ct ?_ | refine .cf ?_ | refine .cy ?_ | refine .cn ?_ | (refine .cond rfl ?_ ?_ <;> intro hc)
    | refine A.nil_seq ?_ | refine .nl ?_ | refine .dd ?_ | refine .ys ?_ | refine .no ?_ | (refine A.guard rfl ?_ ?_ <;> intro hc)
    | refine .lb ?_ | refine .ln ?_ | refine .ls ?_ | refine .pv ?_ | refine .ix ?_ | refine .pt ?_ | refine .pf ?_ | refine .bx ?_ | refine .al ?_ | refine .st ?_ | refine .ad ?_ | refine .sb ?_ | refine .mf ?_ | refine .cl ?_ | refine .cw ?_ | refine .ck ?_ | fail
  change HCode _ _ _ _ _ _ _
  refine HCode.loop (fun n σs σ => ∃ k : Nat, n = s.length - k ∧ k ≤ s.length ∧ digs s = k + digs (s.drop k) ∧ σ = ⟨[], []⟩ ∧ σs = [(3, .int .i64 k), (0, .str s)])
    (s0 := [(3, .int .i64 (0 : Nat)), (0, .str s)]) ⟨rfl, rfl, trivial⟩ ⟨0, rfl, Nat.zero_le _, by simp, rfl, rfl⟩ ?_
  rintro n σs σ ⟨k, rfl, hk, hp, rfl, rfl⟩
  by_cases h1 : k < s.length
  · have d1 : decide ((k : Int) < (s.length : Int)) = true := by simp [h1]
    have x1 := get_str h1
    have hd := lDigit s[k]
    by_cases c3 : digC s[k] = true
    · repeat' first
        | refine .seq ?_ | refine .rg ?_ | refine .rd ?_ | refine .block ?_ | refine .scope ?_ | refine .skip ?_ | refine .label ?_ | refine .exit ?_ | refine .ret ?_
        | refine .ct ?_ | refine .cf ?_ | refine .cy ?_ | refine .cn ?_ | (refine .cond rfl ?_ ?_ <;> intro hc)
        | refine A.nil_seq ?_ | refine .nl ?_ | refine .dd ?_ | refine .ys ?_ | refine .no ?_ | (refine A.guard rfl ?_ ?_ <;> intro hc)
        | refine .lb ?_ | refine .ln ?_ | refine .ls ?_ | refine .pv ?_ | refine .ix ?_ | refine .pt ?_ | refine .pf ?_ | refine .bx ?_ | refine .al ?_ | refine .st ?_ | refine .ad ?_ | refine .sb ?_ | refine .mf ?_ | refine .cl ?_ | refine .cw ?_ | refine .ck ?_
        | refine A.index_s rfl rfl rfl rfl rfl (by assumption) ?_ | refine A.call rfl hd (WeakL.refl _) ?_ | fail
      refine ⟨s.length - (k + 1), by omega, [(3, .int .i64 ((k + 1 : Nat) : Int)), (0, .str s)], ⟨rfl, rfl, trivial⟩, by simp [belowS, AV.low], rfl, k + 1, rfl, by omega, ?_, rfl, rfl⟩
      rw [hp, digs_drop h1, if_pos c3]; omega
    · have c4 : digC s[k] = false := by simpa using c3
      repeat' first
        | refine .seq ?_ | refine .rg ?_ | refine .rd ?_ | refine .block ?_ | refine .scope ?_ | refine .skip ?_ | refine .label ?_ | refine .exit ?_ | refine .ret ?_
        | refine .ct ?_ | refine .cf ?_ | refine .cy ?_ | refine .cn ?_ | (refine .cond rfl ?_ ?_ <;> intro hc)
        | refine A.nil_seq ?_ | refine .nl ?_ | refine .dd ?_ | refine .ys ?_ | refine .no ?_ | (refine A.guard rfl ?_ ?_ <;> intro hc)
        | refine .lb ?_ | refine .ln ?_ | refine .ls ?_ | refine .pv ?_ | refine .ix ?_ | refine .pt ?_ | refine .pf ?_ | refine .bx ?_ | refine .al ?_ | refine .st ?_ | refine .ad ?_ | refine .sb ?_ | refine .mf ?_ | refine .cl ?_ | refine .cw ?_ | refine .ck ?_
        | refine A.index_s rfl rfl rfl rfl rfl (by assumption) ?_ | refine A.call rfl hd (WeakL.refl _) ?_ | fail
      refine Fin.ret1 rfl (Weak.eq (congrArg (AV.int .i64) ?_))
      rw [hp, digs_drop h1, if_neg c3]; simp
  · have d1 : decide ((k : Int) < (s.length : Int)) = false := by simp; omega
    repeat' first
      | refine .seq ?_ | refine .rg ?_ | refine .rd ?_ | refine .block ?_ | refine .scope ?_ | refine .skip ?_ | refine .label ?_ | refine .exit ?_ | refine .ret ?_
      | refine .ct ?_ | refine .cf ?_ | refine .cy ?_ | refine .cn ?_ | (refine .cond rfl ?_ ?_ <;> intro hc)
      | refine A.nil_seq ?_ | refine .nl ?_ | refine .dd ?_ | refine .ys ?_ | refine .no ?_ | (refine A.guard rfl ?_ ?_ <;> intro hc)
      | refine .lb ?_ | refine .ln ?_ | refine .ls ?_ | refine .pv ?_ | refine .ix ?_ | refine .pt ?_ | refine .pf ?_ | refine .bx ?_ | refine .al ?_ | refine .st ?_ | refine .ad ?_ | refine .sb ?_ | refine .mf ?_ | refine .cl ?_ | refine .cw ?_ | refine .ck ?_ | fail
    refine Fin.ret1 rfl (Weak.eq (congrArg (AV.int .i64) ?_))
    rw [hp, List.drop_eq_nil_of_le (by omega), digs]; simp
end Go.Proofs.YtijlmchfepjjkaaDoor
namespace Go.Proofs.YtijlmchfepjjkaaDoor
open Go Go.Av
set_option maxRecDepth 100000
set_option maxHeartbeats 8000000
set_option linter.unusedVariables false
set_option linter.unusedSimpArgs false
attribute [local irreducible] HCode AOps PFn AFn Av.Step TStep

def pfx (p s : Str) : Bool := decide (p.length ≤ s.length) && (s.take p.length == p)
theorem slPrefix (s p : Str) : PFn Tryd.prog 171 [.str s, .str p] (.bool (pfx p s)) := by
  refine AFn.plain rfl rfl (AFn.enter [4] Tryd.func171 rfl rfl rfl rfl rfl (by decide) ?_)
  by_cases h1 : p.length ≤ s.length
  · have d1 : decide ((s.length : Int) ≥ (p.length : Int)) = true := by simp; omega
    have d2 : decide ((p.length : Int) ≤ (s.length : Int)) = true := by simp; omega
    repeat' first
      | refine .seq ?_ | refine .rg ?_ | refine .rd ?_ | refine .block ?_ | refine .scope ?_ | refine .skip ?_ | refine .label ?_ | refine .exit ?_ | refine .ret ?_
      | refine .ct ?_ | refine .cf ?_ | refine .cy ?_ | refine .cn ?_ | (refine .cond rfl ?_ ?_ <;> intro hc)
      | refine A.nil_seq ?_ | refine .nl ?_ | refine .dd ?_ | refine .ys ?_ | refine .no ?_ | (refine A.guard rfl ?_ ?_ <;> intro hc)
      | refine .lb ?_ | refine .ln ?_ | refine .ls ?_ | refine .pv ?_ | refine .ix ?_ | refine .pt ?_ | refine .pf ?_ | refine .bx ?_ | refine .al ?_ | refine .st ?_ | refine .ad ?_ | refine .sb ?_ | refine .mf ?_ | refine .cl ?_ | refine .cw ?_ | refine .ck ?_
      | refine A.slice_s 0 p.length rfl rfl rfl rfl rfl rfl rfl (by omega) (by omega) rfl ?_ | fail
    refine Fin.ret1 rfl (Weak.eq (congrArg AV.bool ?_))
    simp [pfx, h1]
  · have d1 : decide ((s.length : Int) ≥ (p.length : Int)) = false := by simp; omega
    have d2 : decide ((p.length : Int) ≤ (s.length : Int)) = false := by simp; omega
    repeat' first
      | refine .seq ?_ | refine .rg ?_ | refine .rd ?_ | refine .block ?_ | refine .scope ?_ | refine .skip ?_ | refine .label ?_ | refine .exit ?_ | refine .ret ?_
      | refine .ct ?_ | refine .cf ?_ | refine .cy ?_ | refine .cn ?_ | (refine .cond rfl ?_ ?_ <;> intro hc)
      | refine A.nil_seq ?_ | refine .nl ?_ | refine .dd ?_ | refine .ys ?_ | refine .no ?_ | (refine A.guard rfl ?_ ?_ <;> intro hc)
      | refine .lb ?_ | refine .ln ?_ | refine .ls ?_ | refine .pv ?_ | refine .ix ?_ | refine .pt ?_ | refine .pf ?_ | refine .bx ?_ | refine .al ?_ | refine .st ?_ | refine .ad ?_ | refine .sb ?_ | refine .mf ?_ | refine .cl ?_ | refine .cw ?_ | refine .ck ?_ | fail
    refine Fin.ret1 rfl (Weak.eq (congrArg AV.bool ?_))
    simp [pfx, h1]
theorem hasPrefix (s p : Str) : PFn Tryd.prog 166 [.str s, .str p] (.bool (pfx p s)) := by
  have h := slPrefix s p
  refine AFn.plain rfl rfl (AFn.enter [4] Tryd.func166 rfl rfl rfl rfl rfl (by decide) ?_)
  repeat' first
    | refine .seq ?_ | refine .rg ?_ | refine .rd ?_ | refine .block ?_ | refine .scope ?_ | refine .skip ?_ | refine .label ?_ | refine .exit ?_ | refine .ret ?_
    | refine .ct ?_ | refine .cf ?_ | refine .cy ?_ | refine .cn ?_ | (refine .cond rfl ?_ ?_ <;> intro hc)
    | refine A.nil_seq ?_ | refine .nl ?_ | refine .dd ?_ | refine .ys ?_ | refine .no ?_ | (refine A.guard rfl ?_ ?_ <;> intro hc)
    | refine .lb ?_ | refine .ln ?_ | refine .ls ?_ | refine .pv ?_ | refine .ix ?_ | refine .pt ?_ | refine .pf ?_ | refine .bx ?_ | refine .al ?_ | refine .st ?_ | refine .ad ?_ | refine .sb ?_ | refine .mf ?_ | refine .cl ?_ | refine .cw ?_ | refine .ck ?_
    | refine A.call rfl h (WeakL.refl _) ?_ | fail
  exact Fin.ret1 rfl (Weak.refl _)

/-- How many bytes of a whole number are ahead. -/
def wholeAt (s : Str) (n : Nat) : Nat := if digs (s.drop n) = 0 then 0 else if s[n]? = some 48 then n + 1 else n + digs (s.drop n)
def wholeN (s : Str) : Nat := if pfx [45] s = true then wholeAt s 1 else wholeAt s 0
theorem wholeAt_le {s : Str} {n : Nat} (h : n ≤ s.length) : wholeAt s n ≤ s.length := by
  have := digs_le (s.drop n)
  rw [List.length_drop] at this
  unfold wholeAt
  split
  · omega
  · split <;> omega
theorem pfx1 {c : UInt8} {s : Str} (h : pfx [c] s = true) : 1 ≤ s.length := by
  simp only [pfx, Bool.and_eq_true, decide_eq_true_eq] at h
  exact h.1
theorem wholeN_le (s : Str) : wholeN s ≤ s.length := by
  unfold wholeN
  split
  · exact wholeAt_le (pfx1 (by assumption))
  · exact wholeAt_le (Nat.zero_le _)
theorem tWhole (s : Str) (hs : s.length ≤ 9223372036854775806) : PFn Tryd.prog 165 [.str s] (.int .i64 (wholeN s)) := by
  refine AFn.plain rfl rfl (AFn.enter [2] Tryd.func165 rfl rfl rfl rfl rfl (by decide) ?_)
  have hp := hasPrefix s [45]
  by_cases c1 : pfx [45] s = true
  · have hn : 1 ≤ s.length := pfx1 c1
    have hd := tDigits (s.drop 1) (by rw [List.length_drop]; omega)
    have hle := digs_le (s.drop 1)
    rw [List.length_drop] at hle
    by_cases c2 : digs (s.drop 1) = 0
    · have e2 : ((digs (s.drop 1) : Int) == 0) = true := by rw [c2]; rfl
      repeat' first
        | refine .seq ?_ | refine .rg ?_ | refine .rd ?_ | refine .block ?_ | refine .scope ?_ | refine .skip ?_ | refine .label ?_ | refine .exit ?_ | refine .ret ?_
        | refine .ct ?_ | refine .cf ?_ | refine .cy ?_ | refine .cn ?_ | (refine .cond rfl ?_ ?_ <;> intro hc)
        | refine A.nil_seq ?_ | refine .nl ?_ | refine .dd ?_ | refine .ys ?_ | refine .no ?_ | (refine A.guard rfl ?_ ?_ <;> intro hc)
        | refine .lb ?_ | refine .ln ?_ | refine .ls ?_ | refine .pv ?_ | refine .ix ?_ | refine .pt ?_ | refine .pf ?_ | refine .bx ?_ | refine .al ?_ | refine .st ?_ | refine .ad ?_ | refine .sb ?_ | refine .mf ?_ | refine .cl ?_ | refine .cw ?_ | refine .ck ?_
        | refine A.call rfl hp (WeakL.refl _) ?_ | refine A.slice_s 1 s.length rfl rfl rfl rfl rfl rfl rfl (by omega) (by omega) (by rw [List.take_length]) ?_ | refine A.call rfl hd (WeakL.refl _) ?_ | fail
      refine Fin.ret1 rfl (Weak.eq (congrArg (AV.int .i64) ?_))
      rw [wholeN, if_pos c1, wholeAt, if_pos c2]; rfl
    · have e2 : ((digs (s.drop 1) : Int) == 0) = false := beq_eq_false_iff_ne.2 (by omega)
      have hlt : 1 < s.length := by omega
      have x1 := get_str hlt
      by_cases c3 : s[1] = 48
      · have e3 : ((s[1].toNat : Int) == 48) = true := by rw [c3]; rfl
        repeat' first
          | refine .seq ?_ | refine .rg ?_ | refine .rd ?_ | refine .block ?_ | refine .scope ?_ | refine .skip ?_ | refine .label ?_ | refine .exit ?_ | refine .ret ?_
          | refine .ct ?_ | refine .cf ?_ | refine .cy ?_ | refine .cn ?_ | (refine .cond rfl ?_ ?_ <;> intro hc)
          | refine A.nil_seq ?_ | refine .nl ?_ | refine .dd ?_ | refine .ys ?_ | refine .no ?_ | (refine A.guard rfl ?_ ?_ <;> intro hc)
          | refine .lb ?_ | refine .ln ?_ | refine .ls ?_ | refine .pv ?_ | refine .ix ?_ | refine .pt ?_ | refine .pf ?_ | refine .bx ?_ | refine .al ?_ | refine .st ?_ | refine .ad ?_ | refine .sb ?_ | refine .mf ?_ | refine .cl ?_ | refine .cw ?_ | refine .ck ?_
          | refine A.call rfl hp (WeakL.refl _) ?_ | refine A.slice_s 1 s.length rfl rfl rfl rfl rfl rfl rfl (by omega) (by omega) (by rw [List.take_length]) ?_ | refine A.call rfl hd (WeakL.refl _) ?_ | refine A.index_s (j := 1) rfl rfl rfl rfl rfl (by assumption) ?_ | fail
        refine Fin.ret1 rfl (Weak.eq (congrArg (AV.int .i64) ?_))
        rw [wholeN, if_pos c1, wholeAt, if_neg c2, x1, if_pos (congrArg some c3)]; rfl
      · have e3 : ((s[1].toNat : Int) == 48) = false := by
          have : s[1].toNat ≠ 48 := fun h => c3 (UInt8.toNat_inj.1 (h.trans rfl))
          simp; omega
        repeat' first
          | refine .seq ?_ | refine .rg ?_ | refine .rd ?_ | refine .block ?_ | refine .scope ?_ | refine .skip ?_ | refine .label ?_ | refine .exit ?_ | refine .ret ?_
          | refine .ct ?_ | refine .cf ?_ | refine .cy ?_ | refine .cn ?_ | (refine .cond rfl ?_ ?_ <;> intro hc)
          | refine A.nil_seq ?_ | refine .nl ?_ | refine .dd ?_ | refine .ys ?_ | refine .no ?_ | (refine A.guard rfl ?_ ?_ <;> intro hc)
          | refine .lb ?_ | refine .ln ?_ | refine .ls ?_ | refine .pv ?_ | refine .ix ?_ | refine .pt ?_ | refine .pf ?_ | refine .bx ?_ | refine .al ?_ | refine .st ?_ | refine .ad ?_ | refine .sb ?_ | refine .mf ?_ | refine .cl ?_ | refine .cw ?_ | refine .ck ?_
          | refine A.call rfl hp (WeakL.refl _) ?_ | refine A.slice_s 1 s.length rfl rfl rfl rfl rfl rfl rfl (by omega) (by omega) (by rw [List.take_length]) ?_ | refine A.call rfl hd (WeakL.refl _) ?_ | refine A.index_s (j := 1) rfl rfl rfl rfl rfl (by assumption) ?_ | fail
        refine Fin.ret1 rfl (Weak.eq (congrArg (AV.int .i64) ?_))
        rw [wholeN, if_pos c1, wholeAt, if_neg c2, x1, if_neg (fun h => c3 (Option.some.inj h))]; omega
  · have c1' : pfx [45] s = false := by simpa using c1
    have hd := tDigits s hs
    have hle := digs_le s
    by_cases c2 : digs s = 0
    · have e2 : ((digs s : Int) == 0) = true := by simp [c2]
      repeat' first
        | refine .seq ?_ | refine .rg ?_ | refine .rd ?_ | refine .block ?_ | refine .scope ?_ | refine .skip ?_ | refine .label ?_ | refine .exit ?_ | refine .ret ?_
        | refine .ct ?_ | refine .cf ?_ | refine .cy ?_ | refine .cn ?_ | (refine .cond rfl ?_ ?_ <;> intro hc)
        | refine A.nil_seq ?_ | refine .nl ?_ | refine .dd ?_ | refine .ys ?_ | refine .no ?_ | (refine A.guard rfl ?_ ?_ <;> intro hc)
        | refine .lb ?_ | refine .ln ?_ | refine .ls ?_ | refine .pv ?_ | refine .ix ?_ | refine .pt ?_ | refine .pf ?_ | refine .bx ?_ | refine .al ?_ | refine .st ?_ | refine .ad ?_ | refine .sb ?_ | refine .mf ?_ | refine .cl ?_ | refine .cw ?_ | refine .ck ?_
        | refine A.call rfl hp (WeakL.refl _) ?_ | refine A.slice_s 0 s.length rfl rfl rfl rfl rfl rfl rfl (by omega) (by omega) (by rw [List.take_length, List.drop_zero]) ?_ | refine A.call rfl hd (WeakL.refl _) ?_ | fail
      refine Fin.ret1 rfl (Weak.eq (congrArg (AV.int .i64) ?_))
      rw [wholeN, if_neg c1, wholeAt, List.drop_zero, if_pos c2]; rfl
    · have e2 : ((digs s : Int) == 0) = false := by simp [c2]
      have hlt : 0 < s.length := by omega
      have x1 := get_str hlt
      by_cases c3 : s[0] = 48
      · have e3 : ((s[0].toNat : Int) == 48) = true := by rw [c3]; rfl
        repeat' first
          | refine .seq ?_ | refine .rg ?_ | refine .rd ?_ | refine .block ?_ | refine .scope ?_ | refine .skip ?_ | refine .label ?_ | refine .exit ?_ | refine .ret ?_
          | refine .ct ?_ | refine .cf ?_ | refine .cy ?_ | refine .cn ?_ | (refine .cond rfl ?_ ?_ <;> intro hc)
          | refine A.nil_seq ?_ | refine .nl ?_ | refine .dd ?_ | refine .ys ?_ | refine .no ?_ | (refine A.guard rfl ?_ ?_ <;> intro hc)
          | refine .lb ?_ | refine .ln ?_ | refine .ls ?_ | refine .pv ?_ | refine .ix ?_ | refine .pt ?_ | refine .pf ?_ | refine .bx ?_ | refine .al ?_ | refine .st ?_ | refine .ad ?_ | refine .sb ?_ | refine .mf ?_ | refine .cl ?_ | refine .cw ?_ | refine .ck ?_
          | refine A.call rfl hp (WeakL.refl _) ?_ | refine A.slice_s 0 s.length rfl rfl rfl rfl rfl rfl rfl (by omega) (by omega) (by rw [List.take_length, List.drop_zero]) ?_ | refine A.call rfl hd (WeakL.refl _) ?_ | refine A.index_s (j := 0) rfl rfl rfl rfl rfl (by assumption) ?_ | fail
        refine Fin.ret1 rfl (Weak.eq (congrArg (AV.int .i64) ?_))
        rw [wholeN, if_neg c1, wholeAt, List.drop_zero, if_neg c2, x1, if_pos (congrArg some c3)]; rfl
      · have e3 : ((s[0].toNat : Int) == 48) = false := by
          have : s[0].toNat ≠ 48 := fun h => c3 (UInt8.toNat_inj.1 (h.trans rfl))
          simp; omega
        repeat' first
          | refine .seq ?_ | refine .rg ?_ | refine .rd ?_ | refine .block ?_ | refine .scope ?_ | refine .skip ?_ | refine .label ?_ | refine .exit ?_ | refine .ret ?_
          | refine .ct ?_ | refine .cf ?_ | refine .cy ?_ | refine .cn ?_ | (refine .cond rfl ?_ ?_ <;> intro hc)
          | refine A.nil_seq ?_ | refine .nl ?_ | refine .dd ?_ | refine .ys ?_ | refine .no ?_ | (refine A.guard rfl ?_ ?_ <;> intro hc)
          | refine .lb ?_ | refine .ln ?_ | refine .ls ?_ | refine .pv ?_ | refine .ix ?_ | refine .pt ?_ | refine .pf ?_ | refine .bx ?_ | refine .al ?_ | refine .st ?_ | refine .ad ?_ | refine .sb ?_ | refine .mf ?_ | refine .cl ?_ | refine .cw ?_ | refine .ck ?_
          | refine A.call rfl hp (WeakL.refl _) ?_ | refine A.slice_s 0 s.length rfl rfl rfl rfl rfl rfl rfl (by omega) (by omega) (by rw [List.take_length, List.drop_zero]) ?_ | refine A.call rfl hd (WeakL.refl _) ?_ | refine A.index_s (j := 0) rfl rfl rfl rfl rfl (by assumption) ?_ | fail
        refine Fin.ret1 rfl (Weak.eq (congrArg (AV.int .i64) ?_))
        rw [wholeN, if_neg c1, wholeAt, List.drop_zero, if_neg c2, x1, if_neg (fun h => c3 (Option.some.inj h))]; omega

def expAt (s : Str) (n : Nat) : Nat := if digs (s.drop n) = 0 then 0 else n + digs (s.drop n)
/-- How many bytes of an exponent are ahead. -/
def powN (s : Str) : Nat :=
  if (s.getD 0 0).toNat = 101 ∨ (s.getD 0 0).toNat = 69 then
    (if 1 < s.length ∧ ((s.getD 1 0).toNat = 43 ∨ (s.getD 1 0).toNat = 45) then expAt s 2 else expAt s 1)
  else 0
theorem expAt_le {s : Str} {n : Nat} (h : n ≤ s.length) : expAt s n ≤ s.length := by
  have := digs_le (s.drop n)
  rw [List.length_drop] at this
  unfold expAt
  split <;> omega
theorem powN_le (s : Str) : powN s ≤ s.length := by
  unfold powN
  split
  · have h : 1 ≤ s.length := by
      cases s with
      | nil => simp_all
      | cons c s => simp
    split
    · exact expAt_le (by omega)
    · exact expAt_le h
  · omega
theorem getD_of {s : Str} {k : Nat} (h : k < s.length) : s.getD k 0 = s[k] := by simp [List.getD, h]
theorem tPower (s : Str) (hs : s.length ≤ 9223372036854775806) : PFn Tryd.prog 168 [.str s] (.int .i64 (powN s)) := by
  refine AFn.plain rfl rfl (AFn.enter [2] Tryd.func168 rfl rfl rfl rfl rfl (by decide) ?_)
  by_cases h0 : s.length = 0
  · obtain rfl := List.eq_nil_of_length_eq_zero h0
    repeat' first
      | refine .seq ?_ | refine .rg ?_ | refine .rd ?_ | refine .block ?_ | refine .scope ?_ | refine .skip ?_ | refine .label ?_ | refine .exit ?_ | refine .ret ?_
      | refine .ct ?_ | refine .cf ?_ | refine .cy ?_ | refine .cn ?_ | (refine .cond rfl ?_ ?_ <;> intro hc)
      | refine A.nil_seq ?_ | refine .nl ?_ | refine .dd ?_ | refine .ys ?_ | refine .no ?_ | (refine A.guard rfl ?_ ?_ <;> intro hc)
      | refine .lb ?_ | refine .ln ?_ | refine .ls ?_ | refine .pv ?_ | refine .ix ?_ | refine .pt ?_ | refine .pf ?_ | refine .bx ?_ | refine .al ?_ | refine .st ?_ | refine .ad ?_ | refine .sb ?_ | refine .mf ?_ | refine .cl ?_ | refine .cw ?_ | refine .ck ?_ | fail
    refine Fin.ret1 rfl (Weak.eq (congrArg (AV.int .i64) ?_))
    rfl
  · have h0' : 0 < s.length := by omega
    have hne : (s == []) = false := by cases s <;> simp_all
    have x0 := get_str h0'
    have hd1 := tDigits (s.drop 1) (by rw [List.length_drop]; omega)
    have hle1 := digs_le (s.drop 1)
    rw [List.length_drop] at hle1
    have g0 := getD_of h0'
    by_cases h1 : 1 < s.length
    · have x1 := get_str h1
      have g1 := getD_of h1
      have d1 : decide ((s.length : Int) > 1) = true := by simp; omega
      have hd2 := tDigits (s.drop 2) (by rw [List.length_drop]; omega)
      have hle2 := digs_le (s.drop 2)
      rw [List.length_drop] at hle2
      repeat' first
        | refine .seq ?_ | refine .rg ?_ | refine .rd ?_ | refine .block ?_ | refine .scope ?_ | refine .skip ?_ | refine .label ?_ | refine .exit ?_ | refine .ret ?_
        | refine .ct ?_ | refine .cf ?_ | refine .cy ?_ | refine .cn ?_ | (refine .cond rfl ?_ ?_ <;> intro hc)
        | refine A.nil_seq ?_ | refine .nl ?_ | refine .dd ?_ | refine .ys ?_ | refine .no ?_ | (refine A.guard rfl ?_ ?_ <;> intro hc)
        | refine .lb ?_ | refine .ln ?_ | refine .ls ?_ | refine .pv ?_ | refine .ix ?_ | refine .pt ?_ | refine .pf ?_ | refine .bx ?_ | refine .al ?_ | refine .st ?_ | refine .ad ?_ | refine .sb ?_ | refine .mf ?_ | refine .cl ?_ | refine .cw ?_ | refine .ck ?_
        | refine A.index_s (j := 0) rfl rfl rfl rfl rfl (by assumption) ?_ | refine A.index_s (j := 1) rfl rfl rfl rfl rfl (by assumption) ?_ | refine A.slice_s 1 s.length rfl rfl rfl rfl rfl rfl rfl (by omega) (by omega) (by rw [List.take_length]) ?_ | refine A.slice_s 2 s.length rfl rfl rfl rfl rfl rfl rfl (by omega) (by omega) (by rw [List.take_length]) ?_ | refine A.call rfl hd1 (WeakL.refl _) ?_ | refine A.call rfl hd2 (WeakL.refl _) ?_ | fail
      all_goals
        refine Fin.ret1 rfl (Weak.eq (congrArg (AV.int .i64) ?_))
        unfold powN expAt
        rw [g0, g1]
        simp [-List.drop_one] at *
        (repeat' split) <;> omega
    · have d1 : decide ((s.length : Int) > 1) = false := by simp; omega
      repeat' first
        | refine .seq ?_ | refine .rg ?_ | refine .rd ?_ | refine .block ?_ | refine .scope ?_ | refine .skip ?_ | refine .label ?_ | refine .exit ?_ | refine .ret ?_
        | refine .ct ?_ | refine .cf ?_ | refine .cy ?_ | refine .cn ?_ | (refine .cond rfl ?_ ?_ <;> intro hc)
        | refine A.nil_seq ?_ | refine .nl ?_ | refine .dd ?_ | refine .ys ?_ | refine .no ?_ | (refine A.guard rfl ?_ ?_ <;> intro hc)
        | refine .lb ?_ | refine .ln ?_ | refine .ls ?_ | refine .pv ?_ | refine .ix ?_ | refine .pt ?_ | refine .pf ?_ | refine .bx ?_ | refine .al ?_ | refine .st ?_ | refine .ad ?_ | refine .sb ?_ | refine .mf ?_ | refine .cl ?_ | refine .cw ?_ | refine .ck ?_
        | refine A.index_s (j := 0) rfl rfl rfl rfl rfl (by assumption) ?_ | refine A.slice_s 1 s.length rfl rfl rfl rfl rfl rfl rfl (by omega) (by omega) (by rw [List.take_length]) ?_ | refine A.call rfl hd1 (WeakL.refl _) ?_ | fail
      all_goals
        refine Fin.ret1 rfl (Weak.eq (congrArg (AV.int .i64) ?_))
        unfold powN expAt
        rw [g0]
        simp [-List.drop_one] at *
        (repeat' split) <;> omega
end Go.Proofs.YtijlmchfepjjkaaDoor
