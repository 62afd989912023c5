/-
  How large tables are behind a command.
  The package letters: Good.
  The package table: row.
  The package table: May.
  Plain laws of tables: which may be; what is found behind a row that is put, and behind a cut.
  Plain laws of tables: what is found behind a row that is put, and behind a cut.
  Plain laws of commands: what else is found behind one.
-/
import Derived.Test.YtijlmchfepjjkaaDoorGCommandMays4
import Derived.Test.YtijlmchfepjjkaaDoorAvTab
import Derived.Test.YtijlmchfepjjkaaDoorAvMap
import Derived.Test.YtijlmchfepjjkaaDoorShelf
import Derived.Test.YtijlmchfepjjkaaDoorGCommandMays1
namespace Go.Proofs.YtijlmchfepjjkaaDoor
open Go Go.Av
set_option maxRecDepth 100000
set_option linter.unusedVariables false
set_option linter.unusedSimpArgs false

/-! What a command does to tables, in one of three ways. -/
theorem putRows_all {Q : Row → Prop} {rows : List Row} {r : Row} (h : ∀ x ∈ rows, Q x) (hr : Q r) : ∀ x ∈ putRows rows r, Q x := by
  unfold putRows
  split
  · intro x hx
    rcases List.mem_append.1 hx with h1 | h1
    · exact h x h1
    · rw [List.mem_singleton.1 h1]; exact hr
  · intro x hx
    rcases List.mem_or_eq_of_mem_set hx with h1 | rfl
    · exact h x h1
    · exact hr
theorem putRows_len (rows : List Row) (r : Row) : (putRows rows r).length ≤ rows.length + 1 := by
  unfold putRows; split <;> simp
theorem cutRows_all {Q : Row → Prop} {rows : List Row} {key : Str} (h : ∀ x ∈ rows, Q x) : ∀ x ∈ cutRows rows key, Q x := by
  unfold cutRows
  split
  · exact h
  · intro x hx
    rcases List.mem_append.1 hx with h1 | h1
    · exact h x (List.mem_of_mem_take h1)
    · exact h x (List.mem_of_mem_drop h1)
theorem cutRows_len (rows : List Row) (key : Str) : (cutRows rows key).length ≤ rows.length := by
  unfold cutRows; split <;> simp; omega
theorem modAt_mem {α : Type} {l : List α} {i : Nat} {f : α → α} {x : α} (h : x ∈ modAt l i f) : x ∈ l ∨ ∃ y ∈ l, x = f y := by
  unfold modAt at h
  split at h
  · rename_i y hy
    rcases List.mem_or_eq_of_mem_set h with h1 | rfl
    · exact .inl h1
    · exact .inr ⟨y, List.mem_of_getElem? hy, rfl⟩
  · exact .inl h
theorem modAt_len {α : Type} {l : List α} {i : Nat} {f : α → α} : (modAt l i f).length = l.length := by
  unfold modAt; split <;> simp
theorem putG_mem {l : List Tbl} {name : Str} {r : Row} {t : Tbl} (h : t ∈ putG l name r) : t ∈ l ∨ t.rows = [r] ∨ ∃ y ∈ l, t.rows = putRows y.rows r := by
  unfold putG at h
  split at h
  · rcases List.mem_append.1 h with h1 | h1
    · exact .inl h1
    · rw [List.mem_singleton.1 h1]; exact .inr (.inl rfl)
  · rcases modAt_mem h with h1 | ⟨y, hy, rfl⟩
    · exact .inl h1
    · exact .inr (.inr ⟨y, hy, rfl⟩)
theorem putG_len (l : List Tbl) (name : Str) (r : Row) : (putG l name r).length ≤ l.length + 1 := by
  unfold putG; split
  · simp
  · rw [modAt_len]; omega
theorem cutG_mem {l : List Tbl} {name key : Str} {t : Tbl} (h : t ∈ cutG l name key) : t ∈ l ∨ ∃ y ∈ l, t.rows = cutRows y.rows key := by
  unfold cutG at h
  split at h
  · exact .inl h
  · rcases modAt_mem h with h1 | ⟨y, hy, rfl⟩
    · exact .inl h1
    · exact .inr ⟨y, hy, rfl⟩
theorem cutG_len (l : List Tbl) (name key : Str) : (cutG l name key).length ≤ l.length := by
  unfold cutG; split
  · omega
  · rw [modAt_len]; omega
theorem cmdG_cases (l : List Tbl) (c : Cmd) : (cmdG l c).1 = l ∨ (∃ key, (cmdG l c).1 = cutG l c.table key) ∨ (∃ key, (cmdG l c).1 = putG l c.table (putRow c key (findG l ⟨c.table, key⟩))) ∨
    (∃ key n, (cmdG l c).1 = putG l c.table { (findG l ⟨c.table, key⟩).row with cols := setG (findG l ⟨c.table, key⟩).row.cols c.col (intV n) }) := by
  unfold cmdG
  split
  · exact .inl rfl
  · split
    · exact .inl rfl
    · split
      · exact .inl rfl
      · split
        · exact .inl rfl
        · split
          · exact .inr (.inr (.inl ⟨_, rfl⟩))
          · split
            · exact .inl rfl
            · split
              · exact .inr (.inl ⟨_, rfl⟩)
              · unfold addG
                dsimp only
                split
                · exact .inl rfl
                · split
                  · exact .inl rfl
                  · split
                    · exact .inl rfl
                    · exact .inr (.inr (.inr ⟨_, _, rfl⟩))
theorem find_row {Q : Row → Prop} {l : List Tbl} (h : ∀ t ∈ l, ∀ r ∈ t.rows, Q r) (h0 : Q noRow) (n : Need) : Q (findG l n).row := by
  unfold findG
  split
  · exact h0
  · rename_i t ht
    split
    · exact h0
    · rename_i r hr
      unfold gotOf
      split
      · exact h0
      · exact h t (List.mem_of_find?_eq_some ht) r (List.mem_of_find?_eq_some hr)
/-- Each row's columns: at most so many, and not larger than that. -/
def Slim (B R : Nat) (r : Row) : Prop := r.cols.length ≤ B ∧ sumSize Mem.size r.cols ≤ R
def Slims (B R : Nat) (l : List Tbl) : Prop := l.length ≤ B ∧ (∀ t ∈ l, t.rows.length ≤ B) ∧ ∀ t ∈ l, ∀ r ∈ t.rows, Slim B R r
theorem Slims.fine {B R : Nat} {l : List Tbl} (h : Slims B R l) : Fine B l := ⟨h.1, h.2.1, fun t ht r hr => (h.2.2 t ht r hr).1⟩
theorem put_slims {B R : Nat} {l : List Tbl} {name : Str} {r : Row} {a b : Nat} (h : Slims B R l) (hr : Slim (B + a + 1) (R + b) r) : Slims (B + a + 1) (R + b) (putG l name r) := by
  have up : ∀ x, Slim B R x → Slim (B + a + 1) (R + b) x := fun x hx => ⟨by have := hx.1; omega, by have := hx.2; omega⟩
  refine ⟨by have := putG_len l name r; have := h.1; omega, fun t ht => ?_, fun t ht => ?_⟩
  · rcases putG_mem ht with h1 | h1 | ⟨y, hy, h1⟩
    · have := h.2.1 t h1; omega
    · rw [h1]; simp
    · rw [h1]; have := putRows_len y.rows r; have := h.2.1 y hy; omega
  · rcases putG_mem ht with h1 | h1 | ⟨y, hy, h1⟩
    · exact fun x hx => up x (h.2.2 t h1 x hx)
    · rw [h1]; intro x hx; rw [List.mem_singleton.1 hx]; exact hr
    · rw [h1]; exact putRows_all (fun x hx => up x (h.2.2 y hy x hx)) hr
theorem cmd_slims {B R : Nat} {l : List Tbl} (h : Slims B R l) (c : Cmd) : Slims (B + c.args.length + 1) (R + (c.size + 8)) (cmdG l c).1 := by
  have up : ∀ x, Slim B R x → Slim (B + c.args.length + 1) (R + (c.size + 8)) x := fun x hx => ⟨by have := hx.1; omega, by have := hx.2; omega⟩
  have hsz : c.size = c.name.length + c.table.length + c.col.length + c.typ.length + sumSize Mem.size c.args + 5 := rfl
  have hrow : ∀ n, Slim B R (findG l n).row := fun n => find_row h.2.2 ⟨Nat.zero_le _, Nat.zero_le _⟩ n
  rcases cmdG_cases l c with e | ⟨key, e⟩ | ⟨key, e⟩ | ⟨key, n, e⟩
  · rw [e]
    exact ⟨by have := h.1; omega, fun t ht => by have := h.2.1 t ht; omega, fun t ht r hr => up r (h.2.2 t ht r hr)⟩
  · rw [e]
    refine ⟨by have := cutG_len l c.table key; have := h.1; omega, fun t ht => ?_, fun t ht => ?_⟩
    · rcases cutG_mem ht with h1 | ⟨y, hy, h1⟩
      · have := h.2.1 t h1; omega
      · rw [h1]; have := cutRows_len y.rows key; have := h.2.1 y hy; omega
    · rcases cutG_mem ht with h1 | ⟨y, hy, h1⟩
      · exact fun x hx => up x (h.2.2 t h1 x hx)
      · rw [h1]; exact cutRows_all fun x hx => up x (h.2.2 y hy x hx)
  · rw [e]
    refine put_slims h ?_
    unfold putRow
    by_cases hg : (findG l ⟨c.table, key⟩).is = true
    · rw [if_pos hg]
      have h1 := putCols_len c.args (findG l ⟨c.table, key⟩).row.cols
      have h2 := putCols_size c.args (findG l ⟨c.table, key⟩).row.cols
      have h3 := hrow ⟨c.table, key⟩
      exact ⟨by have := h3.1; dsimp only; omega, by have := h3.2; dsimp only; omega⟩
    · rw [if_neg hg]
      have h1 := putCols_len c.args []
      have h2 := putCols_size c.args []
      simp only [List.length_nil] at h1
      simp only [sumSize] at h2
      exact ⟨by dsimp only; omega, by dsimp only; omega⟩
  · rw [e]
    refine put_slims h ?_
    have h1 := setG_len (findG l ⟨c.table, key⟩).row.cols c.col (intV n)
    have h2 := setG_size (findG l ⟨c.table, key⟩).row.cols c.col (intV n)
    rw [intV_size] at h2
    have h3 := hrow ⟨c.table, key⟩
    exact ⟨by have := h3.1; dsimp only; omega, by have := h3.2; dsimp only; omega⟩
theorem slims_of {l : List Tbl} {n : Nat} (h : tabSize l ≤ n) : Slims n n l :=
  ⟨(fine_of h).len, (fine_of h).rows, fun t ht r hr => ⟨(fine_of h).cols t ht r hr, cols_of h t ht r hr⟩⟩

end Go.Proofs.YtijlmchfepjjkaaDoor
namespace Go.Proofs.YtijlmchfepjjkaaDoor
open Go Go.Av
set_option maxRecDepth 100000
set_option maxHeartbeats 8000000
set_option linter.unusedVariables false
set_option linter.unusedSimpArgs false

/-- Is a text code points alone? -/
def good (s : Str) : Bool := Lib.validD s
theorem validString (s : Str) (hs : s.length ≤ 9223372036854775807) : PFn Tryd.prog 85 [.str s] (.bool (good s)) := by
  refine PFn.ofBelow ⟨_, Tryd.func85, rfl, rfl⟩ rfl (fun im w vals him hgl hl => ?_)
  obtain ⟨v, rest, e, hv, hr⟩ := hl
  have hv' : v = .string ⟨s.toArray⟩ := hv
  have hr' : rest = [] := hr
  subst hv'; subst hr'
  obtain rfl : vals = #[.string ⟨s.toArray⟩] := by cases vals; simp_all
  have h3 := GlobOk.rep (g := ⟨[], [], im⟩) hgl (p := (0, .agg (Lib.firstTab.map (AV.int .u8)))) (.head _)
  have h4 := GlobOk.rep (g := ⟨[], [], im⟩) hgl (p := (1, .agg (accTab.map (AV.int .u8)))) (.tail _ (.head _))
  refine (Tryd.utf8_ValidString ⟨s.toArray⟩ w (by simpa [ByteArray.size] using hs) (utf8_tabs h3 h4)).mono ?_
  rintro e w' ⟨rfl, hb⟩
  exact ⟨⟨_, rfl, rfl⟩, hb⟩
attribute [local irreducible] HCode AOps PFn AFn Av.Step TStep
theorem lgood (s : Str) (hs : s.length ≤ 9223372036854775807) : PFn Tryd.prog 36 [.str s] (.bool (good s)) := by
  have hv := validString s hs
  refine AFn.plain rfl rfl (AFn.enter [2] Tryd.func36 rfl rfl rfl rfl rfl (by decide) ?_)
  repeat' first
    | refine .seq ?_ | refine .rg ?_ | refine .rd ?_ | refine .block ?_ | refine .scope ?_ | refine .skip ?_ | refine .label ?_ | refine .exit ?_ | refine .ret ?_
    | refine .ct ?_ | refine .cf ?_ | refine .cy ?_ | refine .cn ?_ | (refine .cond rfl ?_ ?_ <;> intro hc)
    | refine A.nil_seq ?_ | refine .nl ?_ | refine .dd ?_ | refine .ys ?_ | refine .no ?_ | (refine A.guard rfl ?_ ?_ <;> intro hc)
    | refine .lb ?_ | refine .ln ?_ | refine .ls ?_ | refine .pv ?_ | refine .ix ?_ | refine .pt ?_ | refine .pf ?_ | refine .bx ?_ | refine .al ?_ | refine .st ?_ | refine .ad ?_ | refine .sb ?_ | refine .mf ?_ | refine .cl ?_ | refine .cw ?_ | refine .ck ?_
    | refine A.call rfl hv (WeakL.refl _) ?_ | fail
  exact Fin.ret1 rfl (Weak.refl _)

end Go.Proofs.YtijlmchfepjjkaaDoor
namespace Go.Proofs.YtijlmchfepjjkaaDoor
open Go Go.Av
set_option maxRecDepth 100000
set_option maxHeartbeats 8000000
set_option linter.unusedVariables false
set_option linter.unusedSimpArgs false

attribute [local irreducible] HCode AOps PFn AFn Av.Step TStep
/-- A set of texts, as a map. -/
def seenM (ns : List Str) : List (AV × AV) := ns.map fun n => (.str n, .bool true)
theorem seen_keys : ∀ ns : List Str, strKeys (seenM ns) = true
  | [] => rfl
  | n :: ns => seen_keys ns
theorem seen_look (k : Str) : ∀ ns : List Str, (mlook k (seenM ns)).getD (.bool false) = .bool (decide (k ∈ ns))
  | [] => rfl
  | n :: ns => by
    by_cases e : n = k
    · subst e; simp [seenM, mlook]
    · have := seen_look k ns
      simp only [seenM, List.map_cons, mlook, if_neg e] at this ⊢
      rw [this]
      have : ¬ k = n := fun h => e h.symm
      simp [this]
theorem seen_put (k : Str) : ∀ ns : List Str, k ∉ ns → mput k (.bool true) (seenM ns) = seenM (ns ++ [k])
  | [], _ => rfl
  | n :: ns, h => by
    have e : ¬ n = k := fun e => h (by simp [e])
    have := seen_put k ns (fun hm => h (List.mem_cons_of_mem _ hm))
    simp only [seenM, List.map_cons, mput, if_neg e, List.cons_append] at this ⊢
    rw [this]
theorem seen_low (a b : Nat) : ∀ ns : List Str, belowM a b (seenM ns) = true
  | [] => rfl
  | n :: ns => by
    show ((AV.str n).low a b && (AV.bool true).low a b && belowM a b (seenM ns)) = true
    rw [seen_low a b ns]; rfl

section
variable (gv st : Val → Bool)
def colOk (m : Mem) : Bool := good m.name && (gv m.v && st m.v)
def colsOk : List Mem → List Str → Bool
  | [], _ => true
  | m :: l, ns => !decide (m.name ∈ ns) && (colOk gv st m && colsOk l (ns ++ [m.name]))
def rowOk (r : Row) : Bool := colsOk gv st r.cols [] && (good r.key && good r.typ)
def rowsOk : List Row → List Str → Bool
  | [], _ => true
  | r :: l, ks => !decide (r.key ∈ ks) && (rowOk gv st r && rowsOk l (ks ++ [r.key]))
def tblsOk : List Tbl → List Str → Bool
  | [], _ => true
  | t :: l, ns => !decide (t.name ∈ ns) && (good t.name && (rowsOk gv st t.rows [] && tblsOk l (ns ++ [t.name])))
theorem colsOk_drop {l : List Mem} {k : Nat} (h : k < l.length) : colsOk gv st (l.drop k) ((l.take k).map Mem.name) = (!decide (l[k].name ∈ (l.take k).map Mem.name) && (colOk gv st l[k] && colsOk gv st (l.drop (k + 1)) ((l.take (k + 1)).map Mem.name))) := by
  rw [List.drop_eq_getElem_cons h, colsOk, List.take_succ_eq_append_getElem h, List.map_append]; rfl
theorem rowsOk_drop {l : List Row} {k : Nat} (h : k < l.length) : rowsOk gv st (l.drop k) ((l.take k).map Row.key) = (!decide (l[k].key ∈ (l.take k).map Row.key) && (rowOk gv st l[k] && rowsOk gv st (l.drop (k + 1)) ((l.take (k + 1)).map Row.key))) := by
  rw [List.drop_eq_getElem_cons h, rowsOk, List.take_succ_eq_append_getElem h, List.map_append]; rfl
theorem tblsOk_drop {l : List Tbl} {k : Nat} (h : k < l.length) : tblsOk gv st (l.drop k) ((l.take k).map Tbl.name) = (!decide (l[k].name ∈ (l.take k).map Tbl.name) && (good l[k].name && (rowsOk gv st l[k].rows [] && tblsOk gv st (l.drop (k + 1)) ((l.take (k + 1)).map Tbl.name)))) := by
  rw [List.drop_eq_getElem_cons h, tblsOk, List.take_succ_eq_append_getElem h, List.map_append]; rfl
end

/-- What a row of such columns asks of the functions on values. -/
structure ValFns (gv st : Val → Bool) (B : Nat) : Prop where
  good : ∀ v : Val, v.size ≤ B → PFn Tryd.prog 19 [v.enc] (.bool (gv v))
  stands : ∀ v : Val, v.size ≤ B → PFn Tryd.prog 113 [v.enc] (.bool (st v))

theorem tableRow {gv st : Val → Bool} {B : Nat} (F : ValFns gv st B) (r : Row) (hB : B ≤ 1048576) (hc : ∀ m ∈ r.cols, m.name.length ≤ 1048576 ∧ m.v.size ≤ B) (hl : r.cols.length ≤ 1048576) (hk : r.key.length ≤ 1048576) (ht : r.typ.length ≤ 1048576) :
    PFn Tryd.prog 77 [r.enc] (.bool (rowOk gv st r)) := by
  refine AFn.plain rfl (by simp [AV.closedL, Row.closed]) (AFn.enter [2] Tryd.func77 rfl rfl rfl rfl rfl (by decide) ?_)
  repeat' first
    | refine A.box_r rfl rfl ?_ | refine A.makeMap rfl rfl ?_
    | refine .seq ?_ | refine .rg ?_ | refine .rd ?_ | refine .block ?_ | refine .scope ?_ | refine .skip ?_ | refine .label ?_ | refine .exit ?_ | refine .ret ?_
    | refine .ct ?_ | refine .cf ?_ | refine .cy ?_ | refine .cn ?_ | (refine .cond rfl ?_ ?_ <;> intro hc)
    | refine A.nil_seq ?_ | refine .nl ?_ | refine .dd ?_ | refine .ys ?_ | refine .no ?_ | (refine A.guard rfl ?_ ?_ <;> intro hc)
    | refine .lb ?_ | refine .ln ?_ | refine .ls ?_ | refine .pv ?_ | refine .ix ?_ | refine .pt ?_ | refine .pf ?_ | refine .bx ?_ | refine .al ?_ | refine .st ?_ | refine .ad ?_ | refine .sb ?_ | refine .mf ?_ | refine .cl ?_ | refine .cw ?_ | refine .ck ?_ | fail
  change HCode _ _ _ _ _ _ _
  refine HCode.loop (fun n s σ => ∃ k : Nat, n = r.cols.length - k ∧ k ≤ r.cols.length ∧ colsOk gv st r.cols [] = colsOk gv st (r.cols.drop k) ((r.cols.take k).map Mem.name) ∧ σ = ⟨[.map (seenM ((r.cols.take k).map Mem.name))], []⟩ ∧
    s = [(10, .int .i64 k), (9, .int .i64 r.cols.length), (8, .slice (r.cols.map Mem.enc) .no), (3, .map 0), (1, .rptr r.enc)])
    (s0 := [(10, .int .i64 (0 : Nat)), (9, .int .i64 r.cols.length), (8, .slice (r.cols.map Mem.enc) .no), (3, .map 0), (1, .rptr r.enc)])
    ⟨rfl, rfl, rfl, rfl, rfl, trivial⟩ ⟨0, rfl, Nat.zero_le _, rfl, rfl, rfl⟩ ?_
  rintro n s σ ⟨k, rfl, hk', hp, rfl, rfl⟩
  by_cases h1 : k < r.cols.length
  · have d1 : decide ((k : Int) < (r.cols.length : Int)) = true := by simp [h1]
    have x1 := map_get' (f := Mem.enc) h1
    have hsk := seen_keys ((r.cols.take k).map Mem.name)
    have hlo := seen_look r.cols[k].name ((r.cols.take k).map Mem.name)
    have hgd := lgood r.cols[k].name (by have := (hc _ (List.getElem_mem h1)).1; omega)
    have hvg := F.good r.cols[k].v (hc _ (List.getElem_mem h1)).2
    have hvs := F.stands r.cols[k].v (hc _ (List.getElem_mem h1)).2
    have hd := colsOk_drop gv st h1
    by_cases c1 : r.cols[k].name ∈ (r.cols.take k).map Mem.name
    · have e1 : decide (r.cols[k].name ∈ (r.cols.take k).map Mem.name) = true := by simpa using c1
      repeat' first
        | refine .seq ?_ | refine .rg ?_ | refine .rd ?_ | refine .block ?_ | refine .scope ?_ | refine .skip ?_ | refine .label ?_ | refine .exit ?_ | refine .ret ?_
        | refine .ct ?_ | refine .cf ?_ | refine .cy ?_ | refine .cn ?_ | (refine .cond rfl ?_ ?_ <;> intro hc)
        | refine A.nil_seq ?_ | refine .nl ?_ | refine .dd ?_ | refine .ys ?_ | refine .no ?_ | (refine A.guard rfl ?_ ?_ <;> intro hc)
        | refine .lb ?_ | refine .ln ?_ | refine .ls ?_ | refine .pv ?_ | refine .ix ?_ | refine .pt ?_ | refine .pf ?_ | refine .bx ?_ | refine .al ?_ | refine .st ?_ | refine .ad ?_ | refine .sb ?_ | refine .mf ?_ | refine .cl ?_ | refine .cw ?_ | refine .ck ?_
        | refine A.lookup Tryd.underlying123 Tryd.underlying9 rfl rfl rfl rfl hsk hlo ?_ | fail
      refine Fin.ret1 rfl (Weak.eq ?_)
      unfold rowOk
      rw [hp, hd, e1]; rfl
    · have e1 : decide (r.cols[k].name ∈ (r.cols.take k).map Mem.name) = false := by simpa using c1
      by_cases c2 : good r.cols[k].name = true
      · have e2 : (!good r.cols[k].name) = false := by rw [c2]; rfl
        by_cases c3 : gv r.cols[k].v = true
        · have e3 : (!gv r.cols[k].v) = false := by rw [c3]; rfl
          by_cases c4 : st r.cols[k].v = true
          · have e4 : (!st r.cols[k].v) = false := by rw [c4]; rfl
            have hpu := seen_put r.cols[k].name ((r.cols.take k).map Mem.name) c1
            have htk : (r.cols.take k).map Mem.name ++ [r.cols[k].name] = (r.cols.take (k + 1)).map Mem.name := by rw [List.take_succ_eq_append_getElem h1, List.map_append]; rfl
            repeat' first
              | refine .seq ?_ | refine .rg ?_ | refine .rd ?_ | refine .block ?_ | refine .scope ?_ | refine .skip ?_ | refine .label ?_ | refine .exit ?_ | refine .ret ?_
              | refine .ct ?_ | refine .cf ?_ | refine .cy ?_ | refine .cn ?_ | (refine .cond rfl ?_ ?_ <;> intro hc)
              | refine A.nil_seq ?_ | refine .nl ?_ | refine .dd ?_ | refine .ys ?_ | refine .no ?_ | (refine A.guard rfl ?_ ?_ <;> intro hc)
              | refine .lb ?_ | refine .ln ?_ | refine .ls ?_ | refine .pv ?_ | refine .ix ?_ | refine .pt ?_ | refine .pf ?_ | refine .bx ?_ | refine .al ?_ | refine .st ?_ | refine .ad ?_ | refine .sb ?_ | refine .mf ?_ | refine .cl ?_ | refine .cw ?_ | refine .ck ?_
              | refine A.lookup Tryd.underlying123 Tryd.underlying9 rfl rfl rfl rfl hsk hlo ?_ | refine A.call rfl hgd (WeakL.refl _) ?_ | refine A.call rfl hvg (WeakL.refl _) ?_ | refine A.call rfl hvs (WeakL.refl _) ?_ | refine A.mapUpdate Tryd.underlying123 Tryd.underlying9 rfl rfl rfl rfl hsk rfl ?_ | fail
            refine ⟨r.cols.length - (k + 1), by omega, [(10, .int .i64 ((k + 1 : Nat) : Int)), (9, .int .i64 r.cols.length), (8, .slice (r.cols.map Mem.enc) .no), (3, .map 0), (1, .rptr r.enc)],
              ⟨rfl, rfl, rfl, rfl, rfl, trivial⟩, by simp [belowS, AV.low, Mem.lowL, AV.low_of_closed _ _ _ (Row.closed r)], ?_, k + 1, rfl, by omega, ?_, ?_, rfl⟩
            · simp only [List.length_cons, List.length_nil, List.set_cons_zero, List.take_succ_cons, List.take_zero, hpu]
              simp [belowB, belowT, Ob.low, seen_low]
            · rw [hp, hd, e1, colOk, c2, c3, c4]; rfl
            · simp only [List.length_cons, List.length_nil, List.set_cons_zero, List.take_succ_cons, List.take_zero, hpu, htk]
          · have e4 : (!st r.cols[k].v) = true := by simpa using c4
            repeat' first
              | refine .seq ?_ | refine .rg ?_ | refine .rd ?_ | refine .block ?_ | refine .scope ?_ | refine .skip ?_ | refine .label ?_ | refine .exit ?_ | refine .ret ?_
              | refine .ct ?_ | refine .cf ?_ | refine .cy ?_ | refine .cn ?_ | (refine .cond rfl ?_ ?_ <;> intro hc)
              | refine A.nil_seq ?_ | refine .nl ?_ | refine .dd ?_ | refine .ys ?_ | refine .no ?_ | (refine A.guard rfl ?_ ?_ <;> intro hc)
              | refine .lb ?_ | refine .ln ?_ | refine .ls ?_ | refine .pv ?_ | refine .ix ?_ | refine .pt ?_ | refine .pf ?_ | refine .bx ?_ | refine .al ?_ | refine .st ?_ | refine .ad ?_ | refine .sb ?_ | refine .mf ?_ | refine .cl ?_ | refine .cw ?_ | refine .ck ?_
              | refine A.lookup Tryd.underlying123 Tryd.underlying9 rfl rfl rfl rfl hsk hlo ?_ | refine A.call rfl hgd (WeakL.refl _) ?_ | refine A.call rfl hvg (WeakL.refl _) ?_ | refine A.call rfl hvs (WeakL.refl _) ?_ | fail
            refine Fin.ret1 rfl (Weak.eq ?_)
            unfold rowOk
            rw [hp, hd, colOk, show st r.cols[k].v = false by simpa using c4]; simp
        · have e3 : (!gv r.cols[k].v) = true := by simpa using c3
          repeat' first
            | refine .seq ?_ | refine .rg ?_ | refine .rd ?_ | refine .block ?_ | refine .scope ?_ | refine .skip ?_ | refine .label ?_ | refine .exit ?_ | refine .ret ?_
            | refine .ct ?_ | refine .cf ?_ | refine .cy ?_ | refine .cn ?_ | (refine .cond rfl ?_ ?_ <;> intro hc)
            | refine A.nil_seq ?_ | refine .nl ?_ | refine .dd ?_ | refine .ys ?_ | refine .no ?_ | (refine A.guard rfl ?_ ?_ <;> intro hc)
            | refine .lb ?_ | refine .ln ?_ | refine .ls ?_ | refine .pv ?_ | refine .ix ?_ | refine .pt ?_ | refine .pf ?_ | refine .bx ?_ | refine .al ?_ | refine .st ?_ | refine .ad ?_ | refine .sb ?_ | refine .mf ?_ | refine .cl ?_ | refine .cw ?_ | refine .ck ?_
            | refine A.lookup Tryd.underlying123 Tryd.underlying9 rfl rfl rfl rfl hsk hlo ?_ | refine A.call rfl hgd (WeakL.refl _) ?_ | refine A.call rfl hvg (WeakL.refl _) ?_ | fail
          refine Fin.ret1 rfl (Weak.eq ?_)
          unfold rowOk
          rw [hp, hd, colOk, show gv r.cols[k].v = false by simpa using c3]; simp
      · have e2 : (!good r.cols[k].name) = true := by simpa using c2
        repeat' first
          | refine .seq ?_ | refine .rg ?_ | refine .rd ?_ | refine .block ?_ | refine .scope ?_ | refine .skip ?_ | refine .label ?_ | refine .exit ?_ | refine .ret ?_
          | refine .ct ?_ | refine .cf ?_ | refine .cy ?_ | refine .cn ?_ | (refine .cond rfl ?_ ?_ <;> intro hc)
          | refine A.nil_seq ?_ | refine .nl ?_ | refine .dd ?_ | refine .ys ?_ | refine .no ?_ | (refine A.guard rfl ?_ ?_ <;> intro hc)
          | refine .lb ?_ | refine .ln ?_ | refine .ls ?_ | refine .pv ?_ | refine .ix ?_ | refine .pt ?_ | refine .pf ?_ | refine .bx ?_ | refine .al ?_ | refine .st ?_ | refine .ad ?_ | refine .sb ?_ | refine .mf ?_ | refine .cl ?_ | refine .cw ?_ | refine .ck ?_
          | refine A.lookup Tryd.underlying123 Tryd.underlying9 rfl rfl rfl rfl hsk hlo ?_ | refine A.call rfl hgd (WeakL.refl _) ?_ | fail
        refine Fin.ret1 rfl (Weak.eq ?_)
        unfold rowOk
        rw [hp, hd, colOk, show good r.cols[k].name = false by simpa using c2]; simp
  · have d1 : decide ((k : Int) < (r.cols.length : Int)) = false := by simp; omega
    have hkk := lgood r.key (by omega)
    have hkt := lgood r.typ (by omega)
    have hend : colsOk gv st r.cols [] = true := by rw [hp, List.drop_eq_nil_of_le (by omega)]; rfl
    by_cases c1 : good r.key = true
    · repeat' first
        | refine .seq ?_ | refine .rg ?_ | refine .rd ?_ | refine .block ?_ | refine .scope ?_ | refine .skip ?_ | refine .label ?_ | refine .exit ?_ | refine .ret ?_
        | refine .ct ?_ | refine .cf ?_ | refine .cy ?_ | refine .cn ?_ | (refine .cond rfl ?_ ?_ <;> intro hc)
        | refine A.nil_seq ?_ | refine .nl ?_ | refine .dd ?_ | refine .ys ?_ | refine .no ?_ | (refine A.guard rfl ?_ ?_ <;> intro hc)
        | refine .lb ?_ | refine .ln ?_ | refine .ls ?_ | refine .pv ?_ | refine .ix ?_ | refine .pt ?_ | refine .pf ?_ | refine .bx ?_ | refine .al ?_ | refine .st ?_ | refine .ad ?_ | refine .sb ?_ | refine .mf ?_ | refine .cl ?_ | refine .cw ?_ | refine .ck ?_
        | refine A.call rfl hkk (WeakL.refl _) ?_ | refine A.call rfl hkt (WeakL.refl _) ?_ | fail
      refine Fin.ret1 rfl (Weak.eq ?_)
      unfold rowOk
      rw [hend, c1]; rfl
    · have e1 : good r.key = false := by simpa using c1
      repeat' first
        | refine .seq ?_ | refine .rg ?_ | refine .rd ?_ | refine .block ?_ | refine .scope ?_ | refine .skip ?_ | refine .label ?_ | refine .exit ?_ | refine .ret ?_
        | refine .ct ?_ | refine .cf ?_ | refine .cy ?_ | refine .cn ?_ | (refine .cond rfl ?_ ?_ <;> intro hc)
        | refine A.nil_seq ?_ | refine .nl ?_ | refine .dd ?_ | refine .ys ?_ | refine .no ?_ | (refine A.guard rfl ?_ ?_ <;> intro hc)
        | refine .lb ?_ | refine .ln ?_ | refine .ls ?_ | refine .pv ?_ | refine .ix ?_ | refine .pt ?_ | refine .pf ?_ | refine .bx ?_ | refine .al ?_ | refine .st ?_ | refine .ad ?_ | refine .sb ?_ | refine .mf ?_ | refine .cl ?_ | refine .cw ?_ | refine .ck ?_
        | refine A.call rfl hkk (WeakL.refl _) ?_ | refine A.call rfl hkt (WeakL.refl _) ?_ | fail
      refine Fin.ret1 rfl (Weak.eq ?_)
      unfold rowOk
      rw [hend, e1]; rfl
end Go.Proofs.YtijlmchfepjjkaaDoor
namespace Go.Proofs.YtijlmchfepjjkaaDoor
open Go Go.Av
set_option maxRecDepth 100000
set_option maxHeartbeats 8000000
set_option linter.unusedVariables false
set_option linter.unusedSimpArgs false
attribute [local irreducible] HCode AOps PFn AFn Av.Step TStep

/-- What the lengths and sizes in tables are bound by. -/
structure TblsIn (B : Nat) (l : List Tbl) : Prop where
  len : l.length ≤ 1048576
  name : ∀ t ∈ l, t.name.length ≤ 1048576
  rows : ∀ t ∈ l, t.rows.length ≤ 1048576
  key : ∀ t ∈ l, ∀ r ∈ t.rows, r.key.length ≤ 1048576 ∧ r.typ.length ≤ 1048576 ∧ r.cols.length ≤ 1048576
  cols : ∀ t ∈ l, ∀ r ∈ t.rows, ∀ m ∈ r.cols, m.name.length ≤ 1048576 ∧ m.v.size ≤ B

theorem tableMay {gv st : Val → Bool} {B : Nat} (F : ValFns gv st B) (hB : B ≤ 1048576) (l : List Tbl) (hl : TblsIn B l) : PFn Tryd.prog 25 [Tbls.enc l] (.bool (tblsOk gv st l [])) := by
  refine AFn.plain rfl (by simp [AV.closedL, Tbls.closed]) (AFn.enter [2] Tryd.func25 rfl rfl rfl rfl rfl (by decide) ?_)
  repeat' first
    | refine A.makeMap rfl rfl ?_
    | refine .seq ?_ | refine .rg ?_ | refine .rd ?_ | refine .block ?_ | refine .scope ?_ | refine .skip ?_ | refine .label ?_ | refine .exit ?_ | refine .ret ?_
    | refine .ct ?_ | refine .cf ?_ | refine .cy ?_ | refine .cn ?_ | (refine .cond rfl ?_ ?_ <;> intro hc)
    | refine A.nil_seq ?_ | refine .nl ?_ | refine .dd ?_ | refine .ys ?_ | refine .no ?_ | (refine A.guard rfl ?_ ?_ <;> intro hc)
    | refine .lb ?_ | refine .ln ?_ | refine .ls ?_ | refine .pv ?_ | refine .ix ?_ | refine .pt ?_ | refine .pf ?_ | refine .bx ?_ | refine .al ?_ | refine .st ?_ | refine .ad ?_ | refine .sb ?_ | refine .mf ?_ | refine .cl ?_ | refine .cw ?_ | refine .ck ?_ | fail
  change HCode _ _ _ _ _ _ _
  refine HCode.loop (fun n s σ => ∃ k : Nat, n = l.length - k ∧ k ≤ l.length ∧ tblsOk gv st l [] = tblsOk gv st (l.drop k) ((l.take k).map Tbl.name) ∧ σ = ⟨[.map (seenM ((l.take k).map Tbl.name))], []⟩ ∧
    s = [(12, .int .i64 k), (11, .int .i64 l.length), (10, Tbls.enc l), (3, .map 0)])
    (s0 := [(12, .int .i64 (0 : Nat)), (11, .int .i64 l.length), (10, Tbls.enc l), (3, .map 0)])
    ⟨rfl, rfl, rfl, rfl, trivial⟩ ⟨0, rfl, Nat.zero_le _, rfl, rfl, rfl⟩ ?_
  rintro n s σ ⟨k, rfl, hk', hp, rfl, rfl⟩
  by_cases h1 : k < l.length
  · have d1 : decide ((k : Int) < (l.length : Int)) = true := by simp [h1]
    have x1 := map_get' (f := Tbl.enc) h1
    have hm := List.getElem_mem h1
    have hsk := seen_keys ((l.take k).map Tbl.name)
    have hlo := seen_look l[k].name ((l.take k).map Tbl.name)
    have hgd := lgood l[k].name (by have := hl.name _ hm; omega)
    have hrl := hl.rows _ hm
    have hll := hl.len
    have hd := tblsOk_drop gv st h1
    by_cases c1 : l[k].name ∈ (l.take k).map Tbl.name
    · have e1 : decide (l[k].name ∈ (l.take k).map Tbl.name) = true := by simpa using c1
      repeat' first
        | refine .seq ?_ | refine .rg ?_ | refine .rd ?_ | refine .block ?_ | refine .scope ?_ | refine .skip ?_ | refine .label ?_ | refine .exit ?_ | refine .ret ?_
        | refine .ct ?_ | refine .cf ?_ | refine .cy ?_ | refine .cn ?_ | (refine .cond rfl ?_ ?_ <;> intro hc)
        | refine A.nil_seq ?_ | refine .nl ?_ | refine .dd ?_ | refine .ys ?_ | refine .no ?_ | (refine A.guard rfl ?_ ?_ <;> intro hc)
        | refine .lb ?_ | refine .ln ?_ | refine .ls ?_ | refine .pv ?_ | refine .ix ?_ | refine .pt ?_ | refine .pf ?_ | refine .bx ?_ | refine .al ?_ | refine .st ?_ | refine .ad ?_ | refine .sb ?_ | refine .mf ?_ | refine .cl ?_ | refine .cw ?_ | refine .ck ?_
        | refine A.lookup Tryd.underlying123 Tryd.underlying9 rfl rfl rfl rfl hsk hlo ?_ | fail
      refine Fin.ret1 rfl (Weak.eq ?_)
      rw [hp, hd, e1]; rfl
    · have e1 : decide (l[k].name ∈ (l.take k).map Tbl.name) = false := by simpa using c1
      by_cases c2 : good l[k].name = true
      · have e2 : (!good l[k].name) = false := by rw [c2]; rfl
        have hpu := seen_put l[k].name ((l.take k).map Tbl.name) c1
        have htk : (l.take k).map Tbl.name ++ [l[k].name] = (l.take (k + 1)).map Tbl.name := by rw [List.take_succ_eq_append_getElem h1, List.map_append]; rfl
        rw [htk] at hpu
        repeat' first
          | refine A.makeMap rfl rfl ?_
          | refine .seq ?_ | refine .rg ?_ | refine .rd ?_ | refine .block ?_ | refine .scope ?_ | refine .skip ?_ | refine .label ?_ | refine .exit ?_ | refine .ret ?_
          | refine .ct ?_ | refine .cf ?_ | refine .cy ?_ | refine .cn ?_ | (refine .cond rfl ?_ ?_ <;> intro hc)
          | refine A.nil_seq ?_ | refine .nl ?_ | refine .dd ?_ | refine .ys ?_ | refine .no ?_ | (refine A.guard rfl ?_ ?_ <;> intro hc)
          | refine .lb ?_ | refine .ln ?_ | refine .ls ?_ | refine .pv ?_ | refine .ix ?_ | refine .pt ?_ | refine .pf ?_ | refine .bx ?_ | refine .al ?_ | refine .st ?_ | refine .ad ?_ | refine .sb ?_ | refine .mf ?_ | refine .cl ?_ | refine .cw ?_ | refine .ck ?_
          | refine A.lookup Tryd.underlying123 Tryd.underlying9 rfl rfl rfl rfl hsk hlo ?_ | refine A.call rfl hgd (WeakL.refl _) ?_ | refine A.mapUpdate (B' := [.map (seenM ((l.take (k + 1)).map Tbl.name)), .cells [.str l[k].name, .slice (l[k].rows.map Row.enc) .no]]) Tryd.underlying123 Tryd.underlying9 rfl rfl rfl rfl hsk (by rw [← hpu]; rfl) ?_ | fail
        change HCode _ _ _ _ _ _ _
        refine HCode.loop (fun n s σ => ∃ j : Nat, n = l[k].rows.length - j ∧ j ≤ l[k].rows.length ∧ rowsOk gv st l[k].rows [] = rowsOk gv st (l[k].rows.drop j) ((l[k].rows.take j).map Row.key) ∧
            σ = ⟨[.map (seenM ((l.take (k + 1)).map Tbl.name)), .cells [.str l[k].name, .slice (l[k].rows.map Row.enc) .no], .map (seenM ((l[k].rows.take j).map Row.key))], []⟩ ∧
          s = [(33, .int .i64 j), (32, .int .i64 l[k].rows.length), (31, .slice (l[k].rows.map Row.enc) .no), (6, .map 2), (12, .int .i64 k), (11, .int .i64 l.length), (10, Tbls.enc l), (3, .map 0)])
          (s0 := [(33, .int .i64 (0 : Nat)), (32, .int .i64 l[k].rows.length), (31, .slice (l[k].rows.map Row.enc) .no), (6, .map 2), (12, .int .i64 k), (11, .int .i64 l.length), (10, Tbls.enc l), (3, .map 0)])
          ⟨rfl, rfl, rfl, rfl, rfl, rfl, rfl, rfl, trivial⟩ ⟨0, rfl, Nat.zero_le _, rfl, rfl, rfl⟩ ?_
        rintro n s σ ⟨j, rfl, hj', hpj, rfl, rfl⟩
        by_cases h2 : j < l[k].rows.length
        · have d2 : decide ((j : Int) < (l[k].rows.length : Int)) = true := by simp [h2]
          have x2 := map_get' (f := Row.enc) h2
          have hmr := List.getElem_mem h2
          have hsk2 := seen_keys ((l[k].rows.take j).map Row.key)
          have hlo2 := seen_look l[k].rows[j].key ((l[k].rows.take j).map Row.key)
          obtain ⟨w1, w2, w3⟩ := hl.key _ hm _ hmr
          have hrow := tableRow F l[k].rows[j] hB (hl.cols _ hm _ hmr) w3 w1 w2
          have hdj := rowsOk_drop gv st h2
          by_cases c3 : l[k].rows[j].key ∈ (l[k].rows.take j).map Row.key
          · have e3 : decide (l[k].rows[j].key ∈ (l[k].rows.take j).map Row.key) = true := by simpa using c3
            repeat' first
              | refine .seq ?_ | refine .rg ?_ | refine .rd ?_ | refine .block ?_ | refine .scope ?_ | refine .skip ?_ | refine .label ?_ | refine .exit ?_ | refine .ret ?_
              | refine .ct ?_ | refine .cf ?_ | refine .cy ?_ | refine .cn ?_ | (refine .cond rfl ?_ ?_ <;> intro hc)
              | refine A.nil_seq ?_ | refine .nl ?_ | refine .dd ?_ | refine .ys ?_ | refine .no ?_ | (refine A.guard rfl ?_ ?_ <;> intro hc)
              | refine .lb ?_ | refine .ln ?_ | refine .ls ?_ | refine .pv ?_ | refine .ix ?_ | refine .pt ?_ | refine .pf ?_ | refine .bx ?_ | refine .al ?_ | refine .st ?_ | refine .ad ?_ | refine .sb ?_ | refine .mf ?_ | refine .cl ?_ | refine .cw ?_ | refine .ck ?_
              | refine A.lookup Tryd.underlying123 Tryd.underlying9 rfl rfl rfl rfl hsk2 hlo2 ?_ | fail
            refine Fin.ret1 rfl (Weak.eq ?_)
            rw [hp, hd, hpj, hdj, e3]; simp
          · have e3 : decide (l[k].rows[j].key ∈ (l[k].rows.take j).map Row.key) = false := by simpa using c3
            by_cases c4 : rowOk gv st l[k].rows[j] = true
            · have e4 : (!rowOk gv st l[k].rows[j]) = false := by rw [c4]; rfl
              have hpu2 := seen_put l[k].rows[j].key ((l[k].rows.take j).map Row.key) c3
              have htk2 : (l[k].rows.take j).map Row.key ++ [l[k].rows[j].key] = (l[k].rows.take (j + 1)).map Row.key := by rw [List.take_succ_eq_append_getElem h2, List.map_append]; rfl
              rw [htk2] at hpu2
              repeat' first
                | refine .seq ?_ | refine .rg ?_ | refine .rd ?_ | refine .block ?_ | refine .scope ?_ | refine .skip ?_ | refine .label ?_ | refine .exit ?_ | refine .ret ?_
                | refine .ct ?_ | refine .cf ?_ | refine .cy ?_ | refine .cn ?_ | (refine .cond rfl ?_ ?_ <;> intro hc)
                | refine A.nil_seq ?_ | refine .nl ?_ | refine .dd ?_ | refine .ys ?_ | refine .no ?_ | (refine A.guard rfl ?_ ?_ <;> intro hc)
                | refine .lb ?_ | refine .ln ?_ | refine .ls ?_ | refine .pv ?_ | refine .ix ?_ | refine .pt ?_ | refine .pf ?_ | refine .bx ?_ | refine .al ?_ | refine .st ?_ | refine .ad ?_ | refine .sb ?_ | refine .mf ?_ | refine .cl ?_ | refine .cw ?_ | refine .ck ?_
                | refine A.lookup Tryd.underlying123 Tryd.underlying9 rfl rfl rfl rfl hsk2 hlo2 ?_ | refine A.call rfl hrow (WeakL.refl _) ?_ | refine A.mapUpdate (B' := [.map (seenM ((l.take (k + 1)).map Tbl.name)), .cells [.str l[k].name, .slice (l[k].rows.map Row.enc) .no], .map (seenM ((l[k].rows.take (j + 1)).map Row.key)), .cells l[k].rows[j].cells]) Tryd.underlying123 Tryd.underlying9 rfl rfl rfl rfl hsk2 (by rw [← hpu2]; rfl) ?_ | fail
              refine ⟨l[k].rows.length - (j + 1), by omega, [(33, .int .i64 ((j + 1 : Nat) : Int)), (32, .int .i64 l[k].rows.length), (31, .slice (l[k].rows.map Row.enc) .no), (6, .map 2), (12, .int .i64 k), (11, .int .i64 l.length), (10, Tbls.enc l), (3, .map 0)],
                ⟨rfl, rfl, rfl, rfl, rfl, rfl, rfl, rfl, trivial⟩, by simp [belowS, AV.low, Row.lowL, Tbls.enc, Tbl.lowL], ?_, j + 1, rfl, by omega, ?_, rfl, rfl⟩
              · simp [-List.map_take, belowB, belowT, Ob.low, seen_low, AV.lowL, AV.low, Row.lowL]
              · rw [hpj, hdj, e3, c4]; rfl
            · have e4 : (!rowOk gv st l[k].rows[j]) = true := by simpa using c4
              repeat' first
                | refine .seq ?_ | refine .rg ?_ | refine .rd ?_ | refine .block ?_ | refine .scope ?_ | refine .skip ?_ | refine .label ?_ | refine .exit ?_ | refine .ret ?_
                | refine .ct ?_ | refine .cf ?_ | refine .cy ?_ | refine .cn ?_ | (refine .cond rfl ?_ ?_ <;> intro hc)
                | refine A.nil_seq ?_ | refine .nl ?_ | refine .dd ?_ | refine .ys ?_ | refine .no ?_ | (refine A.guard rfl ?_ ?_ <;> intro hc)
                | refine .lb ?_ | refine .ln ?_ | refine .ls ?_ | refine .pv ?_ | refine .ix ?_ | refine .pt ?_ | refine .pf ?_ | refine .bx ?_ | refine .al ?_ | refine .st ?_ | refine .ad ?_ | refine .sb ?_ | refine .mf ?_ | refine .cl ?_ | refine .cw ?_ | refine .ck ?_
                | refine A.lookup Tryd.underlying123 Tryd.underlying9 rfl rfl rfl rfl hsk2 hlo2 ?_ | refine A.call rfl hrow (WeakL.refl _) ?_ | fail
              refine Fin.ret1 rfl (Weak.eq ?_)
              rw [hp, hd, hpj, hdj, show rowOk gv st l[k].rows[j] = false by simpa using c4]; simp
        · have d2 : decide ((j : Int) < (l[k].rows.length : Int)) = false := by simp; omega
          have hend : rowsOk gv st l[k].rows [] = true := by rw [hpj, List.drop_eq_nil_of_le (by omega)]; rfl
          repeat' first
            | refine .seq ?_ | refine .rg ?_ | refine .rd ?_ | refine .block ?_ | refine .scope ?_ | refine .skip ?_ | refine .label ?_ | refine .exit ?_ | refine .ret ?_
            | refine .ct ?_ | refine .cf ?_ | refine .cy ?_ | refine .cn ?_ | (refine .cond rfl ?_ ?_ <;> intro hc)
            | refine A.nil_seq ?_ | refine .nl ?_ | refine .dd ?_ | refine .ys ?_ | refine .no ?_ | (refine A.guard rfl ?_ ?_ <;> intro hc)
            | refine .lb ?_ | refine .ln ?_ | refine .ls ?_ | refine .pv ?_ | refine .ix ?_ | refine .pt ?_ | refine .pf ?_ | refine .bx ?_ | refine .al ?_ | refine .st ?_ | refine .ad ?_ | refine .sb ?_ | refine .mf ?_ | refine .cl ?_ | refine .cw ?_ | refine .ck ?_ | fail
          refine ⟨l.length - (k + 1), by omega, [(12, .int .i64 ((k + 1 : Nat) : Int)), (11, .int .i64 l.length), (10, Tbls.enc l), (3, .map 0)],
            ⟨rfl, rfl, rfl, rfl, trivial⟩, by simp [belowS, AV.low, Tbls.enc, Tbl.lowL], ?_, k + 1, rfl, by omega, ?_, rfl, rfl⟩
          · simp [-List.map_take, belowB, belowT, Ob.low, seen_low]
          · rw [hp, hd, e1, c2, hend]; rfl
      · have e2 : (!good l[k].name) = true := by simpa using c2
        repeat' first
          | refine .seq ?_ | refine .rg ?_ | refine .rd ?_ | refine .block ?_ | refine .scope ?_ | refine .skip ?_ | refine .label ?_ | refine .exit ?_ | refine .ret ?_
          | refine .ct ?_ | refine .cf ?_ | refine .cy ?_ | refine .cn ?_ | (refine .cond rfl ?_ ?_ <;> intro hc)
          | refine A.nil_seq ?_ | refine .nl ?_ | refine .dd ?_ | refine .ys ?_ | refine .no ?_ | (refine A.guard rfl ?_ ?_ <;> intro hc)
          | refine .lb ?_ | refine .ln ?_ | refine .ls ?_ | refine .pv ?_ | refine .ix ?_ | refine .pt ?_ | refine .pf ?_ | refine .bx ?_ | refine .al ?_ | refine .st ?_ | refine .ad ?_ | refine .sb ?_ | refine .mf ?_ | refine .cl ?_ | refine .cw ?_ | refine .ck ?_
          | refine A.lookup Tryd.underlying123 Tryd.underlying9 rfl rfl rfl rfl hsk hlo ?_ | refine A.call rfl hgd (WeakL.refl _) ?_ | fail
        refine Fin.ret1 rfl (Weak.eq ?_)
        rw [hp, hd, show good l[k].name = false by simpa using c2]; simp
  · have d1 : decide ((k : Int) < (l.length : Int)) = false := by simp; omega
    have hend : tblsOk gv st l [] = true := by rw [hp, List.drop_eq_nil_of_le (by omega)]; rfl
    repeat' first
      | refine .seq ?_ | refine .rg ?_ | refine .rd ?_ | refine .block ?_ | refine .scope ?_ | refine .skip ?_ | refine .label ?_ | refine .exit ?_ | refine .ret ?_
      | refine .ct ?_ | refine .cf ?_ | refine .cy ?_ | refine .cn ?_ | (refine .cond rfl ?_ ?_ <;> intro hc)
      | refine A.nil_seq ?_ | refine .nl ?_ | refine .dd ?_ | refine .ys ?_ | refine .no ?_ | (refine A.guard rfl ?_ ?_ <;> intro hc)
      | refine .lb ?_ | refine .ln ?_ | refine .ls ?_ | refine .pv ?_ | refine .ix ?_ | refine .pt ?_ | refine .pf ?_ | refine .bx ?_ | refine .al ?_ | refine .st ?_ | refine .ad ?_ | refine .sb ?_ | refine .mf ?_ | refine .cl ?_ | refine .cw ?_ | refine .ck ?_ | fail
    refine Fin.ret1 rfl (Weak.eq ?_)
    rw [hend]
end Go.Proofs.YtijlmchfepjjkaaDoor
namespace Go.Proofs.YtijlmchfepjjkaaDoor
open Go Go.Av
set_option maxRecDepth 100000
set_option linter.unusedVariables false
set_option linter.unusedSimpArgs false

theorem in_of {l : List Tbl} (h : tabSize l ≤ 1048576) : TblsIn 1048576 l := by
  have hf := fine_of (Nat.le_refl (tabSize l))
  refine ⟨Nat.le_trans hf.len h, fun t ht => ?_, fun t ht => Nat.le_trans (hf.rows t ht) h, fun t ht r hr => ?_, fun t ht r hr m hm => ?_⟩
  · have h1 := sumSize_mem (size := Tbl.size) ht
    have h4 : t.size = t.name.length + sumSize Row.size t.rows + 2 := rfl
    unfold tabSize at h; omega
  · have h1 := sumSize_mem (size := Tbl.size) ht
    have h2 := sumSize_mem (size := Row.size) hr
    have h4 : t.size = t.name.length + sumSize Row.size t.rows + 2 := rfl
    have h5 : r.size = r.key.length + r.typ.length + sumSize Mem.size r.cols + 4 := rfl
    have h6 := hf.cols t ht r hr
    unfold tabSize at h h6
    exact ⟨by omega, by omega, by omega⟩
  · have h1 := sumSize_mem (size := Tbl.size) ht
    have h2 := sumSize_mem (size := Row.size) hr
    have h3 := sumSize_mem (size := Mem.size) hm
    have h4 : t.size = t.name.length + sumSize Row.size t.rows + 2 := rfl
    have h5 : r.size = r.key.length + r.typ.length + sumSize Mem.size r.cols + 4 := rfl
    have h6 : m.size = m.name.length + 2 + m.v.size := rfl
    unfold tabSize at h
    exact ⟨by omega, by omega⟩

section
variable (gv st : Val → Bool)
theorem rowsOk_iff : ∀ (l : List Row) (ks : List Str), rowsOk gv st l ks = true ↔ (∀ r ∈ l, r.key ∉ ks) ∧ (l.map Row.key).Nodup ∧ ∀ r ∈ l, rowOk gv st r = true
  | [], ks => by simp [rowsOk]
  | r :: l, ks => by
    rw [rowsOk]
    simp only [Bool.and_eq_true, Bool.not_eq_true', decide_eq_false_iff_not, rowsOk_iff l, List.mem_append, List.mem_singleton, not_or, List.map_cons, List.nodup_cons, List.mem_map, not_exists, not_and, List.mem_cons, forall_eq_or_imp]
    constructor
    · rintro ⟨h1, h2, h3, h4, h5⟩
      exact ⟨⟨h1, fun x hx => (h3 x hx).1⟩, ⟨fun x hx => (h3 x hx).2.1, h4⟩, h2, h5⟩
    · rintro ⟨⟨h1, h2⟩, ⟨h3, h4⟩, h5, h6⟩
      exact ⟨h1, h5, fun x hx => ⟨h2 x hx, h3 x hx, by simp⟩, h4, h6⟩
theorem tblsOk_iff : ∀ (l : List Tbl) (ns : List Str), tblsOk gv st l ns = true ↔ (∀ t ∈ l, t.name ∉ ns) ∧ (l.map Tbl.name).Nodup ∧ ∀ t ∈ l, good t.name = true ∧ rowsOk gv st t.rows [] = true
  | [], ns => by simp [tblsOk]
  | t :: l, ns => by
    rw [tblsOk]
    simp only [Bool.and_eq_true, Bool.not_eq_true', decide_eq_false_iff_not, tblsOk_iff l, List.mem_append, List.mem_singleton, not_or, List.map_cons, List.nodup_cons, List.mem_map, not_exists, not_and, List.mem_cons, forall_eq_or_imp]
    constructor
    · rintro ⟨h1, h2, h3, h4, h5, h6⟩
      exact ⟨⟨h1, fun x hx => (h4 x hx).1⟩, ⟨fun x hx => (h4 x hx).2.1, h5⟩, ⟨h2, h3⟩, h6⟩
    · rintro ⟨⟨h1, h2⟩, ⟨h3, h4⟩, ⟨h5, h6⟩, h7⟩
      exact ⟨h1, h5, h6, fun x hx => ⟨h2 x hx, h3 x hx, by simp⟩, h4, h7⟩
end

/-! The first of a list that is as is asked. -/
theorem fidx_none {α : Type} {p : α → Bool} : ∀ {l : List α}, fidx p l = none → ∀ x ∈ l, p x = false
  | [], _, x, hx => by simp at hx
  | y :: l, h, x, hx => by
    rw [fidx] at h
    by_cases c : p y = true
    · rw [if_pos c] at h; cases h
    · rw [if_neg c] at h
      have h' : fidx p l = none := by cases e : fidx p l <;> simp_all
      rcases List.mem_cons.1 hx with rfl | hx
      · simpa using c
      · exact fidx_none h' x hx
theorem fidx_some {α : Type} {p : α → Bool} {l : List α} {i : Nat} (h : fidx p l = some i) : ∃ hi : i < l.length, p l[i] = true := by
  rcases fidx_spec p l 0 with ⟨_, h2⟩ | ⟨j, hj, _, h2, h3⟩
  · rw [h2] at h; cases h
  · rw [h2] at h; cases h; exact ⟨hj, h3⟩
theorem map_set_same {α β : Type} {f : α → β} : ∀ {l : List α} {i : Nat} {y : α}, (∀ h : i < l.length, f y = f l[i]) → (l.set i y).map f = l.map f
  | [], i, y, _ => by simp
  | x :: l, 0, y, h => by simp [h (by simp)]
  | x :: l, i + 1, y, h => by
    simp only [List.set_cons_succ, List.map_cons]
    rw [map_set_same (l := l) (fun hi => h (Nat.succ_lt_succ hi))]
theorem mem_set {α : Type} : ∀ {l : List α} {i : Nat} {y x : α}, x ∈ l.set i y → x ∈ l ∨ x = y := fun h => List.mem_or_eq_of_mem_set h

theorem cutRows_sub (rows : List Row) (key : Str) : (cutRows rows key).Sublist rows := by
  unfold cutRows
  split
  · exact List.Sublist.refl _
  · rename_i k hk
    have h1 : (rows.drop (k + 1)).Sublist (rows.drop k) := by
      have : rows.drop (k + 1) = (rows.drop k).drop 1 := by rw [List.drop_drop]
      rw [this]; exact List.drop_sublist _ _
    have h2 := h1.append_left (rows.take k)
    rwa [List.take_append_drop] at h2
section
variable {gv st : Val → Bool}
theorem cutRows_ok {rows : List Row} {key : Str} (h : rowsOk gv st rows [] = true) : rowsOk gv st (cutRows rows key) [] = true := by
  rw [rowsOk_iff] at h ⊢
  have hs := cutRows_sub rows key
  exact ⟨fun _ _ => by simp, (hs.map Row.key).nodup h.2.1, fun r hr => h.2.2 r (hs.subset hr)⟩
theorem cutG_ok {l : List Tbl} {name key : Str} (h : tblsOk gv st l [] = true) : tblsOk gv st (cutG l name key) [] = true := by
  unfold cutG
  split
  · exact h
  · rename_i i hi
    obtain ⟨hil, hp⟩ := fidx_some hi
    rw [modAt_eq hil]
    rw [tblsOk_iff] at h ⊢
    refine ⟨fun _ _ => by simp, ?_, fun t ht => ?_⟩
    · rw [map_set_same (f := Tbl.name) (fun _ => rfl)]; exact h.2.1
    · rcases mem_set ht with ht | rfl
      · exact h.2.2 t ht
      · have := h.2.2 _ (List.getElem_mem hil)
        exact ⟨this.1, cutRows_ok this.2⟩
theorem putRows_ok {rows : List Row} {r : Row} (h : rowsOk gv st rows [] = true) : rowsOk gv st (putRows rows r) [] = rowOk gv st r := by
  rw [Bool.eq_iff_iff]
  rw [rowsOk_iff] at h ⊢
  unfold putRows
  split
  · rename_i hn
    have hn' := fidx_none hn
    constructor
    · exact fun h2 => h2.2.2 r (by simp)
    · intro hr
      refine ⟨fun _ _ => by simp, ?_, fun x hx => ?_⟩
      · rw [List.map_append, List.nodup_append]
        refine ⟨h.2.1, by simp, fun a ha b hb => ?_⟩
        obtain ⟨x, hx, rfl⟩ := List.mem_map.1 ha
        have hb' : b = r.key := by simpa using hb
        subst hb'
        have := hn' x hx
        simpa using this
      · rcases List.mem_append.1 hx with hx | hx
        · exact h.2.2 x hx
        · have : x = r := by simpa using hx
          rw [this]; exact hr
  · rename_i k hk
    obtain ⟨hkl, hp⟩ := fidx_some hk
    constructor
    · exact fun h2 => h2.2.2 r (List.mem_set hkl _)
    · intro hr
      refine ⟨fun _ _ => by simp, ?_, fun x hx => ?_⟩
      · rw [map_set_same (f := Row.key) (fun _ => by simpa using (beq_iff_eq.1 hp).symm)]; exact h.2.1
      · rcases mem_set hx with hx | rfl
        · exact h.2.2 x hx
        · exact hr
theorem alone_ok (name : Str) (r : Row) : tblsOk gv st [⟨name, [r]⟩] [] = (good name && rowOk gv st r) := by
  rw [Bool.eq_iff_iff, tblsOk_iff]
  simp [rowsOk_iff]
theorem putG_ok {l : List Tbl} {name : Str} {r : Row} (h : tblsOk gv st l [] = true) : tblsOk gv st (putG l name r) [] = tblsOk gv st [⟨name, [r]⟩] [] := by
  rw [alone_ok]
  unfold putG
  split
  · rename_i hn
    have hn' := fidx_none hn
    rw [Bool.eq_iff_iff]
    rw [tblsOk_iff] at h ⊢
    rw [Bool.and_eq_true]
    constructor
    · intro h2
      have := h2.2.2 ⟨name, [r]⟩ (by simp)
      rw [rowsOk_iff] at this
      exact ⟨this.1, this.2.2.2 r (by simp)⟩
    · rintro ⟨hg, hr⟩
      refine ⟨fun _ _ => by simp, ?_, fun x hx => ?_⟩
      · rw [List.map_append, List.nodup_append]
        refine ⟨h.2.1, by simp, fun a ha b hb => ?_⟩
        obtain ⟨x, hx, rfl⟩ := List.mem_map.1 ha
        have hb' : b = name := by simpa using hb
        subst hb'
        have := hn' x hx
        simpa using this
      · rcases List.mem_append.1 hx with hx | hx
        · exact h.2.2 x hx
        · have : x = ⟨name, [r]⟩ := by simpa using hx
          rw [this]
          exact ⟨hg, by rw [rowsOk_iff]; simp [hr]⟩
  · rename_i i hi
    obtain ⟨hil, hp⟩ := fidx_some hi
    have hname : l[i].name = name := beq_iff_eq.1 hp
    have hgn := ((tblsOk_iff gv st l []).1 h).2.2 _ (List.getElem_mem hil)
    rw [← hname, hgn.1, Bool.true_and, modAt_eq hil, ← putRows_ok hgn.2 (r := r), Bool.eq_iff_iff]
    rw [tblsOk_iff] at h ⊢
    constructor
    · exact fun h2 => (h2.2.2 _ (List.mem_set hil _)).2
    · intro hr
      refine ⟨fun _ _ => by simp, ?_, fun t ht => ?_⟩
      · rw [map_set_same (f := Tbl.name) (fun _ => rfl)]; exact h.2.1
      · rcases mem_set ht with ht | rfl
        · exact h.2.2 t ht
        · exact ⟨hgn.1, hr⟩
end
end Go.Proofs.YtijlmchfepjjkaaDoor
namespace Go.Proofs.YtijlmchfepjjkaaDoor
open Go Go.Av
set_option maxRecDepth 100000
set_option linter.unusedVariables false
set_option linter.unusedSimpArgs false

theorem find_none {α : Type} {p : α → Bool} {l : List α} (h : fidx p l = none) : l.find? p = none := List.find?_eq_none.2 fun x hx => by rw [fidx_none h x hx]; simp
theorem find_hit {α : Type} {p : α → Bool} : ∀ {l : List α} {i : Nat} {y : α}, fidx p l = some i → p y = true → (l.set i y).find? p = some y
  | [], _, _, h, _ => by cases h
  | x :: l, i, y, h, hy => by
    rw [fidx] at h
    by_cases c : p x = true
    · rw [if_pos c] at h; cases h
      simp [List.find?, hy]
    · rw [if_neg c] at h
      cases e : fidx p l with
      | none => rw [e] at h; cases h
      | some j =>
        rw [e] at h; cases h
        rw [List.set_cons_succ, List.find?, show p x = false by simpa using c]
        exact find_hit e hy
theorem find_at {α : Type} {p : α → Bool} {l : List α} {i : Nat} (h : fidx p l = some i) (hi : i < l.length) (hp : p l[i] = true) : l.find? p = some l[i] := by
  have := find_hit (y := l[i]) h hp
  rwa [List.set_getElem_self] at this
theorem find_miss {α : Type} {p : α → Bool} : ∀ {l : List α} {i : Nat} {y : α}, (∀ hi : i < l.length, p l[i] = false) → p y = false → (l.set i y).find? p = l.find? p
  | [], _, _, _, _ => by simp
  | x :: l, 0, y, h, hy => by
    have hx : p x = false := h (by simp)
    rw [List.set_cons_zero, List.find?, List.find?, hy, hx]
  | x :: l, i + 1, y, h, hy => by
    rw [List.set_cons_succ, List.find?, List.find?]
    rw [find_miss (l := l) (i := i) (fun hi => h (Nat.succ_lt_succ hi)) hy]
theorem find_cut {α : Type} {p : α → Bool} {l : List α} {k : Nat} (hk : k < l.length) (h : p l[k] = false) : (l.take k ++ l.drop (k + 1)).find? p = l.find? p := by
  have e : l = l.take k ++ l[k] :: l.drop (k + 1) := by rw [← List.drop_eq_getElem_cons hk, List.take_append_drop]
  conv => rhs; rw [e]
  rw [List.find?_append, List.find?_append]
  congr 1
  rw [List.find?, h]

theorem find_put (l : List Tbl) (name : Str) (r : Row) : findG (putG l name r) ⟨name, r.key⟩ = gotOf r := by
  unfold findG putG
  cases e : fidx (fun t : Tbl => t.name == name) l with
  | none =>
    have h := find_none e
    rw [List.find?_append, h]
    simp
  | some i =>
    obtain ⟨hi, hp⟩ := fidx_some e
    dsimp only
    rw [modAt_eq hi, find_hit e (by simpa using hp)]
    dsimp only
    unfold putRows
    cases e2 : fidx (fun x : Row => x.key == r.key) l[i].rows with
    | none =>
      have h := find_none e2
      rw [List.find?_append, h]
      simp
    | some k =>
      rw [find_hit e2 (by simp)]
theorem find_put_other {l : List Tbl} {name : Str} {r : Row} {n : Need} (h : (n.table == name && (n.key == r.key && true)) = false) : findG (putG l name r) n = findG l n := by
  unfold findG putG
  by_cases ht : n.table = name
  · have hk : (r.key == n.key) = false := by
      rw [ht] at h
      simp only [beq_self_eq_true, Bool.true_and, Bool.and_true] at h
      rw [beq_eq_false_iff_ne] at h ⊢
      exact fun e => h e.symm
    rw [ht]
    cases e : fidx (fun t : Tbl => t.name == name) l with
    | none =>
      rw [List.find?_append, find_none e]
      simp [hk]
    | some i =>
      obtain ⟨hi, hp⟩ := fidx_some e
      dsimp only
      rw [modAt_eq hi, find_hit e (by simpa using hp), find_at e hi hp]
      dsimp only
      unfold putRows
      cases e2 : fidx (fun x : Row => x.key == r.key) l[i].rows with
      | none =>
        rw [List.find?_append]
        cases l[i].rows.find? (fun r => r.key == n.key) <;> simp [hk]
      | some k =>
        obtain ⟨hk2, hp2⟩ := fidx_some e2
        have e3 : l[i].rows[k].key = r.key := beq_iff_eq.1 hp2
        dsimp only
        rw [find_miss (p := fun r : Row => r.key == n.key) (fun _ => by first | (rw [e3]; exact hk) | (dsimp only; rw [e3]; exact hk)) hk]
  · have hn : (name == n.table) = false := by
      rw [beq_eq_false_iff_ne]; exact fun e => ht e.symm
    cases e : fidx (fun t : Tbl => t.name == name) l with
    | none =>
      rw [List.find?_append]
      cases l.find? (fun t => t.name == n.table) <;> simp [hn]
    | some i =>
      obtain ⟨hi, hp⟩ := fidx_some e
      have e3 : l[i].name = name := beq_iff_eq.1 hp
      dsimp only
      rw [modAt_eq hi, find_miss (p := fun t : Tbl => t.name == n.table) (fun _ => by first | (rw [e3]; exact hn) | (dsimp only; rw [e3]; exact hn)) (by first | (rw [e3]; exact hn) | (dsimp only; rw [e3]; exact hn))]
theorem find_cut_other {l : List Tbl} {name key : Str} {n : Need} (h : (n.table == name && (n.key == key && true)) = false) : findG (cutG l name key) n = findG l n := by
  unfold findG cutG
  cases e : fidx (fun t : Tbl => t.name == name) l with
  | none => rfl
  | some i =>
    obtain ⟨hi, hp⟩ := fidx_some e
    have e3 : l[i].name = name := beq_iff_eq.1 hp
    dsimp only
    rw [modAt_eq hi]
    by_cases ht : n.table = name
    · have hk : (key == n.key) = false := by
        rw [ht] at h
        simp only [beq_self_eq_true, Bool.true_and, Bool.and_true] at h
        rw [beq_eq_false_iff_ne] at h ⊢
        exact fun e => h e.symm
      rw [ht, find_hit e (by simpa using hp), find_at e hi hp]
      dsimp only
      unfold cutRows
      cases e2 : fidx (fun x : Row => x.key == key) l[i].rows with
      | none => rfl
      | some k =>
        obtain ⟨hk2, hp2⟩ := fidx_some e2
        have e4 : l[i].rows[k].key = key := beq_iff_eq.1 hp2
        dsimp only
        rw [find_cut (p := fun r : Row => r.key == n.key) hk2 (by first | (rw [e4]; exact hk) | (dsimp only; rw [e4]; exact hk))]
    · have hn : (name == n.table) = false := by
        rw [beq_eq_false_iff_ne]; exact fun e => ht e.symm
      rw [find_miss (p := fun t : Tbl => t.name == n.table) (fun _ => by first | (rw [e3]; exact hn) | (dsimp only; rw [e3]; exact hn)) (by first | (rw [e3]; exact hn) | (dsimp only; rw [e3]; exact hn))]
theorem find_cut_own {gv st : Val → Bool} {l : List Tbl} (name key : Str) (h : tblsOk gv st l [] = true) : findG (cutG l name key) ⟨name, key⟩ = gotNone := by
  unfold findG cutG
  cases e : fidx (fun t : Tbl => t.name == name) l with
  | none => dsimp only; rw [find_none e]
  | some i =>
    obtain ⟨hi, hp⟩ := fidx_some e
    dsimp only
    rw [modAt_eq hi, find_hit e (by simpa using hp)]
    dsimp only
    have hr := ((tblsOk_iff gv st l []).1 h).2.2 _ (List.getElem_mem hi)
    have hn := ((rowsOk_iff gv st _ []).1 hr.2).2.1
    unfold cutRows
    cases e2 : fidx (fun x : Row => x.key == key) l[i].rows with
    | none => dsimp only; rw [find_none e2]
    | some k =>
      obtain ⟨hk2, hp2⟩ := fidx_some e2
      have e4 : l[i].rows[k].key = key := beq_iff_eq.1 hp2
      dsimp only
      have : (l[i].rows.take k ++ l[i].rows.drop (k + 1)).find? (fun r => r.key == key) = none := by
        rw [List.find?_eq_none]
        intro x hx hx2
        have hx3 : x.key = key := by simpa using hx2
        have e5 : l[i].rows = l[i].rows.take k ++ l[i].rows[k] :: l[i].rows.drop (k + 1) := by rw [← List.drop_eq_getElem_cons hk2, List.take_append_drop]
        rw [e5, List.map_append, List.map_cons, List.nodup_append] at hn
        obtain ⟨h1, h2, h3⟩ := hn
        rw [List.nodup_cons] at h2
        rcases List.mem_append.1 hx with hx | hx
        · exact h3 x.key (List.mem_map.2 ⟨x, hx, rfl⟩) l[i].rows[k].key (by simp) (by rw [hx3, e4])
        · exact h2.1 (List.mem_map.2 ⟨x, hx, by rw [hx3, e4]⟩)
      rw [this]
theorem findG_cs (l : List Tbl) (n : Need) : sumSize Mem.size (findG l n).row.cols ≤ tabSize l := by
  unfold findG
  split
  · exact Nat.zero_le _
  · rename_i t ht
    split
    · exact Nat.zero_le _
    · rename_i r hr
      have h1 := cols_of (Nat.le_refl (tabSize l)) t (List.mem_of_find?_eq_some ht) r (List.mem_of_find?_eq_some hr)
      unfold gotOf
      split
      · exact Nat.zero_le _
      · exact h1
end Go.Proofs.YtijlmchfepjjkaaDoor
namespace Go.Proofs.YtijlmchfepjjkaaDoor
open Go Go.Av
set_option maxRecDepth 100000
set_option linter.unusedVariables false
set_option linter.unusedSimpArgs false

/-- The key of the row that a command is about. -/
def keyOf (c : Cmd) : Str := (getG sKey c.args).1.s
theorem findG_key {l : List Tbl} {n : Need} (h : (findG l n).is = true) : (findG l n).row.key = n.key := by
  unfold findG at h ⊢
  cases ht : l.find? (fun t => t.name == n.table) with
  | none => rw [ht] at h; cases h
  | some t =>
    rw [ht] at h
    dsimp only at h ⊢
    cases hr : t.rows.find? (fun r => r.key == n.key) with
    | none => rw [hr] at h; cases h
    | some r =>
      rw [hr] at h
      dsimp only at h ⊢
      have hk := List.find?_some hr
      unfold gotOf at h ⊢
      by_cases hb : r.broken = true
      · rw [if_pos hb] at h; cases h
      · rw [if_neg hb]; exact beq_iff_eq.1 hk
theorem cmd_other {l : List Tbl} {c : Cmd} {n : Need} (h : (n.table == c.table && (n.key == keyOf c && true)) = false) : findG (cmdG l c).1 n = findG l n := by
  have hput : ∀ r : Row, r.key = keyOf c → findG (putG l c.table r) n = findG l n := fun r hr => find_put_other (by rw [hr]; exact h)
  unfold keyOf at h hput
  unfold cmdG
  split
  · rfl
  · split
    · rfl
    · split
      · rfl
      · split
        · rfl
        · split
          · refine hput _ ?_
            unfold putRow
            dsimp only
            split
            · rename_i hi
              exact findG_key hi
            · rfl
          · split
            · rfl
            · rename_i hi
              have hi' : (findG l ⟨c.table, (getG sKey c.args).1.s⟩).is = true := by simpa using hi
              split
              · exact find_cut_other h
              · unfold addG
                dsimp only
                split
                · rfl
                · split
                  · rfl
                  · split
                    · rfl
                    · exact hput _ (findG_key hi')
end Go.Proofs.YtijlmchfepjjkaaDoor
