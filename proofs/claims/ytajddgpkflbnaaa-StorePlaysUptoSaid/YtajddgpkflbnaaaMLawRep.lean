/-
  The law StoreReplays.
-/
import Derived.Test.YtajddgpkflbnaaaMLawSto
namespace Go.Proofs.Ytajddgpkflbnaaa
open Go Go.Av
set_option maxRecDepth 100000
set_option maxHeartbeats 16000000
set_option linter.unusedVariables false
set_option linter.unusedSimpArgs false
attribute [local irreducible] HCode AOps PFn AFn Av.Step TStep

theorem reads_ask : ∀ n : Nat, ReadN Try.prog n 78 true Ask.enc Ask.size (fun o => o.c.ok)
  | 0 => ReadN.zero
  | n + 1 => (ReadN.struct Try.underlying78 (by kernel_rfl)
      (ReadF.cons (c := 1) rfl (by kernel_rfl) (one_cell fun _ => rfl) (reads_bool n)
        (ReadF.cons (c := 5) rfl (by kernel_rfl) (flat_cells fun _ => ⟨_, rfl⟩) (reads_cmd n)
          (ReadF.cons (c := 2) rfl (by kernel_rfl) (flat_cells fun _ => ⟨_, rfl⟩) (reads_batch n) ReadF.nil)))).map
      (fun x => (⟨x.1, x.2.1, x.2.2.1⟩ : Ask)) (fun _ => rfl) (fun x => by simp only [Ask.size]; omega) (fun x h => h.2.1)
theorem reads_asks : ∀ n : Nat, ReadN Try.prog n 66 false (fun l => .slice (l.map Ask.enc) .no) (fun l => sumSize Ask.size l + 1) (fun l => ∀ x ∈ l, x.c.ok)
  | 0 => ReadN.zero
  | n + 1 => ReadN.slice Try.underlying66 (c := 8) (by kernel_rfl) (by decide) (reads_ask n)

/-! What a command does to tables, in one of three ways. -/
theorem putRows_all {Q : Row → Prop} {rows : List Row} {r : Row} (h : ∀ x ∈ rows, Q x) (hr : Q r) : ∀ x ∈ putRows rows r, Q x := by
  unfold putRows
  split
  · intro x hx
    rcases List.mem_append.1 hx with h1 | h1
    · exact h x h1
    · rw [List.mem_singleton.1 h1]; exact hr
  · intro x hx
    rcases List.mem_or_eq_of_mem_set hx with h1 | rfl
    · exact h x h1
    · exact hr
theorem putRows_len (rows : List Row) (r : Row) : (putRows rows r).length ≤ rows.length + 1 := by
  unfold putRows; split <;> simp
theorem cutRows_all {Q : Row → Prop} {rows : List Row} {key : Str} (h : ∀ x ∈ rows, Q x) : ∀ x ∈ cutRows rows key, Q x := by
  unfold cutRows
  split
  · exact h
  · intro x hx
    rcases List.mem_append.1 hx with h1 | h1
    · exact h x (List.mem_of_mem_take h1)
    · exact h x (List.mem_of_mem_drop h1)
theorem cutRows_len (rows : List Row) (key : Str) : (cutRows rows key).length ≤ rows.length := by
  unfold cutRows; split <;> simp; omega
theorem modAt_mem {α : Type} {l : List α} {i : Nat} {f : α → α} {x : α} (h : x ∈ modAt l i f) : x ∈ l ∨ ∃ y ∈ l, x = f y := by
  unfold modAt at h
  split at h
  · rename_i y hy
    rcases List.mem_or_eq_of_mem_set h with h1 | rfl
    · exact .inl h1
    · exact .inr ⟨y, List.mem_of_getElem? hy, rfl⟩
  · exact .inl h
theorem modAt_len {α : Type} {l : List α} {i : Nat} {f : α → α} : (modAt l i f).length = l.length := by
  unfold modAt; split <;> simp
theorem putG_mem {l : List Tbl} {name : Str} {r : Row} {t : Tbl} (h : t ∈ putG l name r) : t ∈ l ∨ t.rows = [r] ∨ ∃ y ∈ l, t.rows = putRows y.rows r := by
  unfold putG at h
  split at h
  · rcases List.mem_append.1 h with h1 | h1
    · exact .inl h1
    · rw [List.mem_singleton.1 h1]; exact .inr (.inl rfl)
  · rcases modAt_mem h with h1 | ⟨y, hy, rfl⟩
    · exact .inl h1
    · exact .inr (.inr ⟨y, hy, rfl⟩)
theorem putG_len (l : List Tbl) (name : Str) (r : Row) : (putG l name r).length ≤ l.length + 1 := by
  unfold putG; split
  · simp
  · rw [modAt_len]; omega
theorem cutG_mem {l : List Tbl} {name key : Str} {t : Tbl} (h : t ∈ cutG l name key) : t ∈ l ∨ ∃ y ∈ l, t.rows = cutRows y.rows key := by
  unfold cutG at h
  split at h
  · exact .inl h
  · rcases modAt_mem h with h1 | ⟨y, hy, rfl⟩
    · exact .inl h1
    · exact .inr ⟨y, hy, rfl⟩
theorem cutG_len (l : List Tbl) (name key : Str) : (cutG l name key).length ≤ l.length := by
  unfold cutG; split
  · omega
  · rw [modAt_len]; omega
theorem cmdG_cases (l : List Tbl) (c : Cmd) : (cmdG l c).1 = l ∨ (∃ key, (cmdG l c).1 = cutG l c.table key) ∨ (∃ key, (cmdG l c).1 = putG l c.table (putRow c key (findG l ⟨c.table, key⟩))) ∨
    (∃ key n, (cmdG l c).1 = putG l c.table { (findG l ⟨c.table, key⟩).row with cols := setG (findG l ⟨c.table, key⟩).row.cols c.col (intV n) }) := by
  unfold cmdG
  split
  · exact .inl rfl
  · split
    · exact .inl rfl
    · split
      · exact .inl rfl
      · split
        · exact .inl rfl
        · split
          · exact .inr (.inr (.inl ⟨_, rfl⟩))
          · split
            · exact .inl rfl
            · split
              · exact .inr (.inl ⟨_, rfl⟩)
              · unfold addG
                dsimp only
                split
                · exact .inl rfl
                · split
                  · exact .inl rfl
                  · split
                    · exact .inl rfl
                    · exact .inr (.inr (.inr ⟨_, _, rfl⟩))
theorem find_row {Q : Row → Prop} {l : List Tbl} (h : ∀ t ∈ l, ∀ r ∈ t.rows, Q r) (h0 : Q noRow) (n : Need) : Q (findG l n).row := by
  unfold findG
  split
  · exact h0
  · rename_i t ht
    split
    · exact h0
    · rename_i r hr
      unfold gotOf
      split
      · exact h0
      · exact h t (List.mem_of_find?_eq_some ht) r (List.mem_of_find?_eq_some hr)
/-- Each row's columns: at most so many, and not larger than that. -/
def Slim (B R : Nat) (r : Row) : Prop := r.cols.length ≤ B ∧ sumSize Mem.size r.cols ≤ R
def Slims (B R : Nat) (l : List Tbl) : Prop := l.length ≤ B ∧ (∀ t ∈ l, t.rows.length ≤ B) ∧ ∀ t ∈ l, ∀ r ∈ t.rows, Slim B R r
theorem Slims.fine {B R : Nat} {l : List Tbl} (h : Slims B R l) : Fine B l := ⟨h.1, h.2.1, fun t ht r hr => (h.2.2 t ht r hr).1⟩
theorem put_slims {B R : Nat} {l : List Tbl} {name : Str} {r : Row} {a b : Nat} (h : Slims B R l) (hr : Slim (B + a + 1) (R + b) r) : Slims (B + a + 1) (R + b) (putG l name r) := by
  have up : ∀ x, Slim B R x → Slim (B + a + 1) (R + b) x := fun x hx => ⟨by have := hx.1; omega, by have := hx.2; omega⟩
  refine ⟨by have := putG_len l name r; have := h.1; omega, fun t ht => ?_, fun t ht => ?_⟩
  · rcases putG_mem ht with h1 | h1 | ⟨y, hy, h1⟩
    · have := h.2.1 t h1; omega
    · rw [h1]; simp
    · rw [h1]; have := putRows_len y.rows r; have := h.2.1 y hy; omega
  · rcases putG_mem ht with h1 | h1 | ⟨y, hy, h1⟩
    · exact fun x hx => up x (h.2.2 t h1 x hx)
    · rw [h1]; intro x hx; rw [List.mem_singleton.1 hx]; exact hr
    · rw [h1]; exact putRows_all (fun x hx => up x (h.2.2 y hy x hx)) hr
theorem cmd_slims {B R : Nat} {l : List Tbl} (h : Slims B R l) (c : Cmd) : Slims (B + c.args.length + 1) (R + (c.size + 8)) (cmdG l c).1 := by
  have up : ∀ x, Slim B R x → Slim (B + c.args.length + 1) (R + (c.size + 8)) x := fun x hx => ⟨by have := hx.1; omega, by have := hx.2; omega⟩
  have hsz : c.size = c.name.length + c.table.length + c.col.length + c.typ.length + sumSize Mem.size c.args + 5 := rfl
  have hrow : ∀ n, Slim B R (findG l n).row := fun n => find_row h.2.2 ⟨Nat.zero_le _, Nat.zero_le _⟩ n
  rcases cmdG_cases l c with e | ⟨key, e⟩ | ⟨key, e⟩ | ⟨key, n, e⟩
  · rw [e]
    exact ⟨by have := h.1; omega, fun t ht => by have := h.2.1 t ht; omega, fun t ht r hr => up r (h.2.2 t ht r hr)⟩
  · rw [e]
    refine ⟨by have := cutG_len l c.table key; have := h.1; omega, fun t ht => ?_, fun t ht => ?_⟩
    · rcases cutG_mem ht with h1 | ⟨y, hy, h1⟩
      · have := h.2.1 t h1; omega
      · rw [h1]; have := cutRows_len y.rows key; have := h.2.1 y hy; omega
    · rcases cutG_mem ht with h1 | ⟨y, hy, h1⟩
      · exact fun x hx => up x (h.2.2 t h1 x hx)
      · rw [h1]; exact cutRows_all fun x hx => up x (h.2.2 y hy x hx)
  · rw [e]
    refine put_slims h ?_
    unfold putRow
    by_cases hg : (findG l ⟨c.table, key⟩).is = true
    · rw [if_pos hg]
      have h1 := putCols_len c.args (findG l ⟨c.table, key⟩).row.cols
      have h2 := putCols_size c.args (findG l ⟨c.table, key⟩).row.cols
      have h3 := hrow ⟨c.table, key⟩
      exact ⟨by have := h3.1; dsimp only; omega, by have := h3.2; dsimp only; omega⟩
    · rw [if_neg hg]
      have h1 := putCols_len c.args []
      have h2 := putCols_size c.args []
      simp only [List.length_nil] at h1
      simp only [sumSize] at h2
      exact ⟨by dsimp only; omega, by dsimp only; omega⟩
  · rw [e]
    refine put_slims h ?_
    have h1 := setG_len (findG l ⟨c.table, key⟩).row.cols c.col (intV n)
    have h2 := setG_size (findG l ⟨c.table, key⟩).row.cols c.col (intV n)
    rw [intV_size] at h2
    have h3 := hrow ⟨c.table, key⟩
    exact ⟨by have := h3.1; dsimp only; omega, by have := h3.2; dsimp only; omega⟩
theorem slims_of {l : List Tbl} {n : Nat} (h : tabSize l ≤ n) : Slims n n l :=
  ⟨(fine_of h).len, (fine_of h).rows, fun t ht r hr => ⟨(fine_of h).cols t ht r hr, cols_of h t ht r hr⟩⟩

/-! What is played. -/
def stepA (o : Ask) (m : List Tbl) : List Tbl := if o.do_ then (cmdG m o.c).1 else m
def playA : List Ask → List Tbl → List Tbl
  | [], m => m
  | o :: l, m => playA l (stepA o m)
theorem playA_drop {l : List Ask} {k : Nat} (h : k < l.length) (m : List Tbl) : playA (l.drop k) m = playA (l.drop (k + 1)) (stepA l[k] m) := by
  rw [List.drop_eq_getElem_cons h, playA]
def logOf (o : Ask) : Entry := if o.do_ then ⟨b0, o.c⟩ else ⟨o.b, c0⟩
def askW (o : Ask) : Nat := o.c.args.length + 1
def askR (o : Ask) : Nat := o.c.size + 8
theorem sumSize_drop {α : Type} (f : α → Nat) {l : List α} {k : Nat} (h : k < l.length) : sumSize f (l.drop k) = f l[k] + sumSize f (l.drop (k + 1)) := by
  rw [List.drop_eq_getElem_cons h, sumSize]
theorem step_slims {B R : Nat} {m : List Tbl} (h : Slims B R m) (o : Ask) : Slims (B + askW o) (R + askR o) (stepA o m) := by
  unfold stepA askW askR
  split
  · exact cmd_slims h o.c
  · exact ⟨by have := h.1; omega, fun t ht => by have := h.2.1 t ht; omega, fun t ht r hr => ⟨by have := (h.2.2 t ht r hr).1; omega, by have := (h.2.2 t ht r hr).2; omega⟩⟩
theorem empty_cmd (m : List Tbl) (c : Cmd) (h : c.name = []) : (cmdG m c).1 = m := by
  have : knownG c.name = false := by rw [h]; rfl
  unfold cmdG
  rw [this]; rfl
theorem logOf_step (o : Ask) (m : List Tbl) : stepA o m = if (logOf o).c.name != [] then (cmdG m (logOf o).c).1 else m := by
  unfold stepA logOf
  cases hd : o.do_ with
  | true =>
    simp only [if_true]
    by_cases hn : o.c.name = []
    · rw [hn, empty_cmd m o.c hn]; rfl
    · rw [if_pos (by simpa using hn)]
  | false => rfl

theorem sames_of {B R : Nat} {l : List Tbl} (h : Slims B R l) (hB : B ≤ 1048576) (hR : R ≤ 1048576 * 64) : PFn Try.prog 18 [Tbls.enc l, Tbls.enc l] (.bool true) :=
  sameTables l (by have := h.1; omega) (fun t ht => by have := h.2.1 t ht; omega) (fun t ht r hr => by have := (h.2.2 t ht r hr).2; omega)

theorem storeReplays (l : List Tbl) (ops : List Ask) (h : tabSize l + sumSize Ask.size ops + 2 ≤ 1048576) : PFn Try.prog 10 [Tbls.enc l, .slice (ops.map Ask.enc) .no] (.bool true) := by
  refine AFn.plain rfl (by simp [AV.closedL, AV.closed, Tbls.closed, Ask.closedL]) (AFn.enter [4] Try.func10 rfl rfl rfl rfl rfl (by decide) ?_)
  have haz : ∀ o : Ask, o.size = o.c.size + (o.b.table.length + sumSize strSize o.b.keys + 2) + 1 := fun _ => rfl
  have hcz : ∀ c : Cmd, c.size = c.name.length + c.table.length + c.col.length + c.typ.length + sumSize Mem.size c.args + 5 := fun _ => rfl
  have hol := sumSize_length (size := Ask.size) (fun o => by rw [haz]; omega) ops
  have hmem : ∀ o ∈ ops, o.size ≤ sumSize Ask.size ops := fun o ho => sumSize_mem (size := Ask.size) ho
  have hkey : ∀ o ∈ ops, o.b.keys.length ≤ 1048576 := fun o ho => by
    have h1 := hmem o ho
    have h2 := haz o
    have h3 := sumSize_length (size := strSize) (fun s => by unfold strSize; omega) o.b.keys
    omega
  have harg : ∀ o ∈ ops, o.c.args.length ≤ 1048576 := fun o ho => by
    have h1 := hmem o ho
    have h2 := haz o
    have h3 := (args_of o.c).2
    omega
  have hW : ∀ L : List Ask, sumSize askW L ≤ sumSize Ask.size L := fun L => by
    induction L with
    | nil => exact Nat.le_refl _
    | cons o L ih =>
      have h2 := haz o
      have h3 := (args_of o.c).2
      have h4 : askW o = o.c.args.length + 1 := rfl
      simp only [sumSize]; omega
  have hR : ∀ L : List Ask, sumSize askR L ≤ 8 * sumSize Ask.size L := fun L => by
    induction L with
    | nil => exact Nat.le_refl _
    | cons o L ih =>
      have h2 := haz o
      have h3 := hcz o.c
      have h4 : askR o = o.c.size + 8 := rfl
      simp only [sumSize]; omega
  have hW0 := hW ops
  have hR0 := hR ops
  have hF : Fine 1048576 l := (fine_of (Nat.le_refl (tabSize l))).le (by omega)
  have hl := light_of l _ (Nat.le_refl _) (by omega)
  have hL := light29 ops (by omega) hkey (fun o ho => by
    have h1 := hmem o ho
    have h2 := haz o
    have h3 := (args_of o.c).1
    omega)
  have hw := awake29
  have hnew := newS l hF
  have hlo : ∀ n m, AV.lowL n m (ops.map Ask.enc) = true := fun n m => AV.lowL_of_closed n m _ (Ask.closedL ops)
  cases d1 : lightT l <;> cases d2 : lightA ops <;> rw [d1] at hl <;> rw [d2] at hL
  rotate_right
  · repeat' first
      | refine HCode.seq ?_ | refine HCode.region rfl ?_ | refine HCode.region_draw Lay.mix rfl ?_ | refine HCode.block ?_ | refine HCode.scope ?_ | refine HCode.skip ?_ | refine HCode.label ?_ | refine HCode.exit ?_ | refine HCode.ret ?_
      | refine HCode.cond_true rfl ?_ | refine HCode.cond_false rfl ?_ | refine HCode.cond_yes rfl (by assumption) ?_ | refine HCode.cond_no rfl (by assumption) ?_ | (refine HCode.cond rfl ?_ ?_ <;> intro hc)
      | refine A.nil_seq ?_ | refine A.nil (fun _ => rfl) ?_ | refine A.dead rfl ?_ | refine A.yes rfl rfl ?_ | refine A.no rfl rfl ?_ | refine A.yes rfl (by assumption) ?_ | refine A.no rfl (by assumption) ?_ | (refine A.guard rfl ?_ ?_ <;> intro hc)
      | refine A.move rfl ?_ | refine A.assign rfl ?_ | refine A.load_b rfl rfl rfl rfl ?_ | refine A.load_r rfl rfl rfl ?_ | refine A.field_b rfl rfl rfl rfl rfl rfl ?_ | refine A.field_r rfl rfl rfl rfl rfl rfl ?_ | refine A.field rfl rfl rfl rfl rfl ?_
      | refine A.index_r rfl rfl rfl rfl rfl rfl (by assumption) rfl ?_ | refine A.len rfl rfl rfl (by first | rw [List.length_map] | rfl) ?_ | refine A.lens rfl rfl rfl rfl ?_
      | refine A.pick_true rfl rfl rfl ?_ | refine A.pick_false rfl rfl rfl ?_ | refine A.pick_true rfl (by assumption) rfl ?_ | refine A.pick_false rfl (by assumption) rfl ?_
      | refine A.box rfl rfl rfl ?_ | refine A.alloc rfl rfl rfl ?_ | refine A.store rfl rfl rfl rfl rfl ?_ | refine A.build rfl rfl rfl rfl ?_ | refine A.buildSlice rfl rfl rfl rfl rfl rfl rfl ?_
      | refine A.eqi rfl rfl ?_ | refine A.nei rfl rfl ?_ | refine A.lss rfl rfl ?_ | refine A.leq rfl rfl ?_ | refine A.gtr rfl rfl ?_ | refine A.geq rfl rfl ?_ | refine A.eqb rfl rfl rfl rfl ?_ | refine A.neb rfl rfl rfl rfl ?_ | refine A.eqs rfl rfl ?_ | refine A.nes rfl rfl ?_ | refine A.lts rfl rfl ?_ | refine A.gts rfl rfl ?_
      | refine A.not rfl ?_ | refine A.extract rfl rfl ?_ | refine A.add64 rfl rfl rfl (by omega) ?_ | refine A.sub64 rfl rfl rfl (by omega) ?_
      | refine A.call rfl hl (WeakL.refl _) ?_ | refine A.call rfl hL (WeakL.refl _) ?_
      | refine A.callO rfl hnew (by simp [AV.closedL, Tbls.closed]) (Tbls.closed _) (WeakL.refl _) rfl rfl rfl rfl ?_ | refine A.peq rfl rfl rfl ?_
    change HCode _ _ _ _ _ _ _
    refine HCode.loop (fun n s σ => ∃ (k B R : Nat) (m : List Tbl) (es : List Entry), n = ops.length - k ∧ k ≤ ops.length ∧ es.length = k ∧ es = (ops.take k).map logOf ∧ playA ops l = playA (ops.drop k) m ∧ Slims B R m ∧ B + sumSize askW (ops.drop k) ≤ 1048576 - 2 ∧
      R + sumSize askR (ops.drop k) ≤ 1048576 * 32 ∧ σ = Sto m es ∧ s = [(6, .int .i64 k), (5, .ptr 0 0), (1, .slice (ops.map Ask.enc) .no), (0, Tbls.enc l)])
      (s0 := [(6, .int .i64 (0 : Nat)), (5, .ptr 0 0), (1, .slice (ops.map Ask.enc) .no), (0, Tbls.enc l)]) ⟨rfl, rfl, rfl, rfl, trivial⟩
      ⟨0, tabSize l, tabSize l, l, [], rfl, Nat.zero_le _, rfl, rfl, rfl, slims_of (Nat.le_refl _), by rw [List.drop_zero]; omega, by rw [List.drop_zero]; omega, rfl, rfl⟩ ?_
    rintro n s σ ⟨k, B, R, m, es, rfl, hk, hel, hes, hp, hsl, hB, hRR, rfl, rfl⟩
    by_cases h1 : k < ops.length
    · have d3 : decide ((k : Int) < (ops.length : Int)) = true := by simp [h1]
      have x1 := map_get' (f := Ask.enc) h1
      rw [playA_drop h1] at hp
      rw [sumSize_drop askW h1] at hB
      rw [sumSize_drop askR h1] at hRR
      have hsl2 := step_slims hsl ops[k]
      have hel2 : (es ++ [logOf ops[k]]).length = k + 1 := by simp [hel]
      have hes2 : es ++ [logOf ops[k]] = (ops.take (k + 1)).map logOf := by rw [hes, List.take_add_one, List.getElem?_eq_getElem h1, List.map_append]; rfl
      have hks := hkey _ (List.getElem_mem h1)
      have hgs := getS m es ops[k].b (hsl.fine.le (by omega)) hks (by omega)
      have hds := doS m es ops[k].c hsl.fine (by have : askW ops[k] = ops[k].c.args.length + 1 := rfl; omega) (by omega)
      cases hdo : ops[k].do_ with
      | true =>
        have e1 : stepA ops[k] m = (cmdG m ops[k].c).1 := by unfold stepA; rw [if_pos hdo]
        have e2 : logOf ops[k] = ⟨b0, ops[k].c⟩ := by unfold logOf; rw [if_pos hdo]
        rw [e1] at hp hsl2
        rw [e2] at hel2 hes2
        repeat' first
          | refine HCode.seq ?_ | refine HCode.region rfl ?_ | refine HCode.region_draw Lay.mix rfl ?_ | refine HCode.block ?_ | refine HCode.scope ?_ | refine HCode.skip ?_ | refine HCode.label ?_ | refine HCode.exit ?_ | refine HCode.ret ?_
          | refine HCode.cond_true rfl ?_ | refine HCode.cond_false rfl ?_ | refine HCode.cond_yes rfl (by assumption) ?_ | refine HCode.cond_no rfl (by assumption) ?_ | (refine HCode.cond rfl ?_ ?_ <;> intro hc)
          | refine A.nil_seq ?_ | refine A.nil (fun _ => rfl) ?_ | refine A.dead rfl ?_ | refine A.yes rfl rfl ?_ | refine A.no rfl rfl ?_ | refine A.yes rfl (by assumption) ?_ | refine A.no rfl (by assumption) ?_ | (refine A.guard rfl ?_ ?_ <;> intro hc)
          | refine A.move rfl ?_ | refine A.assign rfl ?_ | refine A.load_b rfl rfl rfl rfl ?_ | refine A.load_r rfl rfl rfl ?_ | refine A.field_b rfl rfl rfl rfl rfl rfl ?_ | refine A.field_r rfl rfl rfl rfl rfl rfl ?_ | refine A.field rfl rfl rfl rfl rfl ?_
          | refine A.index_r rfl rfl rfl rfl rfl rfl (by assumption) rfl ?_ | refine A.len rfl rfl rfl (by first | rw [List.length_map] | rfl) ?_ | refine A.lens rfl rfl rfl rfl ?_
          | refine A.pick_true rfl rfl rfl ?_ | refine A.pick_false rfl rfl rfl ?_ | refine A.pick_true rfl (by assumption) rfl ?_ | refine A.pick_false rfl (by assumption) rfl ?_
          | refine A.box rfl rfl rfl ?_ | refine A.alloc rfl rfl rfl ?_ | refine A.store rfl rfl rfl rfl rfl ?_ | refine A.build rfl rfl rfl rfl ?_ | refine A.buildSlice rfl rfl rfl rfl rfl rfl rfl ?_
          | refine A.eqi rfl rfl ?_ | refine A.nei rfl rfl ?_ | refine A.lss rfl rfl ?_ | refine A.leq rfl rfl ?_ | refine A.gtr rfl rfl ?_ | refine A.geq rfl rfl ?_ | refine A.eqb rfl rfl rfl rfl ?_ | refine A.neb rfl rfl rfl rfl ?_ | refine A.eqs rfl rfl ?_ | refine A.nes rfl rfl ?_ | refine A.lts rfl rfl ?_ | refine A.gts rfl rfl ?_
          | refine A.not rfl ?_ | refine A.extract rfl rfl ?_ | refine A.add64 rfl rfl rfl (by omega) ?_ | refine A.sub64 rfl rfl rfl (by omega) ?_
          | refine A.callS 0 rfl hds rfl rfl (by simp [AV.closedL, Cmd.closed]) (Tbls.closed _) (Tbls.closed _) (Entry.closedL _) (Entry.closedL _) (by simp [AV.closed, AV.closedL, Val.closed]) (WeakL.refl _) rfl rfl ?_
        exact ⟨ops.length - (k + 1), by omega, [(6, .int .i64 ((k + 1 : Nat) : Int)), (5, .ptr 0 0), (1, .slice (ops.map Ask.enc) .no), (0, Tbls.enc l)], ⟨rfl, rfl, rfl, rfl, trivial⟩,
          by simp [belowS, AV.low, hlo, Tbls.enc, Tbl.lowL], by simp [-List.map_append, belowB, belowT, Tok.low, Ob.low, AV.low, AV.lowL, Entry.lowL, Tbls.enc, Tbl.lowL], k + 1, _, _, _, _, rfl, by omega, hel2, hes2, hp, hsl2, by omega, by omega, rfl, rfl⟩
      | false =>
        have e1 : stepA ops[k] m = m := by unfold stepA; rw [if_neg (by simp [hdo])]
        have e2 : logOf ops[k] = ⟨ops[k].b, c0⟩ := by unfold logOf; rw [if_neg (by simp [hdo])]
        rw [e1] at hp hsl2
        rw [e2] at hel2 hes2
        repeat' first
          | refine HCode.seq ?_ | refine HCode.region rfl ?_ | refine HCode.region_draw Lay.mix rfl ?_ | refine HCode.block ?_ | refine HCode.scope ?_ | refine HCode.skip ?_ | refine HCode.label ?_ | refine HCode.exit ?_ | refine HCode.ret ?_
          | refine HCode.cond_true rfl ?_ | refine HCode.cond_false rfl ?_ | refine HCode.cond_yes rfl (by assumption) ?_ | refine HCode.cond_no rfl (by assumption) ?_ | (refine HCode.cond rfl ?_ ?_ <;> intro hc)
          | refine A.nil_seq ?_ | refine A.nil (fun _ => rfl) ?_ | refine A.dead rfl ?_ | refine A.yes rfl rfl ?_ | refine A.no rfl rfl ?_ | refine A.yes rfl (by assumption) ?_ | refine A.no rfl (by assumption) ?_ | (refine A.guard rfl ?_ ?_ <;> intro hc)
          | refine A.move rfl ?_ | refine A.assign rfl ?_ | refine A.load_b rfl rfl rfl rfl ?_ | refine A.load_r rfl rfl rfl ?_ | refine A.field_b rfl rfl rfl rfl rfl rfl ?_ | refine A.field_r rfl rfl rfl rfl rfl rfl ?_ | refine A.field rfl rfl rfl rfl rfl ?_
          | refine A.index_r rfl rfl rfl rfl rfl rfl (by assumption) rfl ?_ | refine A.len rfl rfl rfl (by first | rw [List.length_map] | rfl) ?_ | refine A.lens rfl rfl rfl rfl ?_
          | refine A.pick_true rfl rfl rfl ?_ | refine A.pick_false rfl rfl rfl ?_ | refine A.pick_true rfl (by assumption) rfl ?_ | refine A.pick_false rfl (by assumption) rfl ?_
          | refine A.box rfl rfl rfl ?_ | refine A.alloc rfl rfl rfl ?_ | refine A.store rfl rfl rfl rfl rfl ?_ | refine A.build rfl rfl rfl rfl ?_ | refine A.buildSlice rfl rfl rfl rfl rfl rfl rfl ?_
          | refine A.eqi rfl rfl ?_ | refine A.nei rfl rfl ?_ | refine A.lss rfl rfl ?_ | refine A.leq rfl rfl ?_ | refine A.gtr rfl rfl ?_ | refine A.geq rfl rfl ?_ | refine A.eqb rfl rfl rfl rfl ?_ | refine A.neb rfl rfl rfl rfl ?_ | refine A.eqs rfl rfl ?_ | refine A.nes rfl rfl ?_ | refine A.lts rfl rfl ?_ | refine A.gts rfl rfl ?_
          | refine A.not rfl ?_ | refine A.extract rfl rfl ?_ | refine A.add64 rfl rfl rfl (by omega) ?_ | refine A.sub64 rfl rfl rfl (by omega) ?_
          | refine A.callS 0 rfl hgs rfl rfl (by simp [AV.closedL, Batch.closed]) (Tbls.closed _) (Tbls.closed _) (Entry.closedL _) (Entry.closedL _) gots_closed (WeakL.refl _) rfl rfl ?_
        exact ⟨ops.length - (k + 1), by omega, [(6, .int .i64 ((k + 1 : Nat) : Int)), (5, .ptr 0 0), (1, .slice (ops.map Ask.enc) .no), (0, Tbls.enc l)], ⟨rfl, rfl, rfl, rfl, trivial⟩,
          by simp [belowS, AV.low, hlo, Tbls.enc, Tbl.lowL], by simp [-List.map_append, belowB, belowT, Tok.low, Ob.low, AV.low, AV.lowL, Entry.lowL, Tbls.enc, Tbl.lowL], k + 1, _, _, _, _, rfl, by omega, hel2, hes2, hp, hsl2, by omega, by omega, rfl, rfl⟩
    · have d3 : decide ((k : Int) < (ops.length : Int)) = false := by simp; omega
      have hk2 : k = ops.length := by omega
      rw [List.drop_eq_nil_of_le (by omega)] at hp hB hRR
      rw [playA] at hp
      simp only [sumSize, Nat.add_zero] at hB hRR
      rw [List.take_of_length_le (by omega)] at hes
      have hel' : es.length = ops.length := by omega
      have hFm : Fine 1048576 m := hsl.fine.le (by omega)
      have hta := tablesS m es hFm
      have hlg := logS m es (by omega) (fun e he => by
        rw [hes] at he
        obtain ⟨o, ho, rfl⟩ := List.mem_map.1 he
        unfold logOf; split
        · exact Nat.zero_le _
        · exact hkey o ho) (fun e he => by
        rw [hes] at he
        obtain ⟨o, ho, rfl⟩ := List.mem_map.1 he
        unfold logOf; split
        · exact harg o ho
        · exact Nat.zero_le _)
      have hst := sames_of hsl (by omega) (by omega)
      have hlow : ∀ n m, AV.lowL n m (es.map Entry.enc) = true := fun n m => Entry.lowL n m es
      repeat' first
        | refine HCode.seq ?_ | refine HCode.region rfl ?_ | refine HCode.region_draw Lay.mix rfl ?_ | refine HCode.block ?_ | refine HCode.scope ?_ | refine HCode.skip ?_ | refine HCode.label ?_ | refine HCode.exit ?_ | refine HCode.ret ?_
        | refine HCode.cond_true rfl ?_ | refine HCode.cond_false rfl ?_ | refine HCode.cond_yes rfl (by assumption) ?_ | refine HCode.cond_no rfl (by assumption) ?_ | (refine HCode.cond rfl ?_ ?_ <;> intro hc)
        | refine A.nil_seq ?_ | refine A.nil (fun _ => rfl) ?_ | refine A.dead rfl ?_ | refine A.yes rfl rfl ?_ | refine A.no rfl rfl ?_ | refine A.yes rfl (by assumption) ?_ | refine A.no rfl (by assumption) ?_ | (refine A.guard rfl ?_ ?_ <;> intro hc)
        | refine A.move rfl ?_ | refine A.assign rfl ?_ | refine A.load_b rfl rfl rfl rfl ?_ | refine A.load_r rfl rfl rfl ?_ | refine A.field_b rfl rfl rfl rfl rfl rfl ?_ | refine A.field_r rfl rfl rfl rfl rfl rfl ?_ | refine A.field rfl rfl rfl rfl rfl ?_
        | refine A.index_r rfl rfl rfl rfl rfl rfl (by assumption) rfl ?_ | refine A.len rfl rfl rfl (by first | rw [List.length_map] | rfl) ?_ | refine A.lens rfl rfl rfl rfl ?_
        | refine A.pick_true rfl rfl rfl ?_ | refine A.pick_false rfl rfl rfl ?_ | refine A.pick_true rfl (by assumption) rfl ?_ | refine A.pick_false rfl (by assumption) rfl ?_
        | refine A.box rfl rfl rfl ?_ | refine A.alloc rfl rfl rfl ?_ | refine A.store rfl rfl rfl rfl rfl ?_ | refine A.build rfl rfl rfl rfl ?_ | refine A.buildSlice rfl rfl rfl rfl rfl rfl rfl ?_
        | refine A.eqi rfl rfl ?_ | refine A.nei rfl rfl ?_ | refine A.lss rfl rfl ?_ | refine A.leq rfl rfl ?_ | refine A.gtr rfl rfl ?_ | refine A.geq rfl rfl ?_ | refine A.eqb rfl rfl rfl rfl ?_ | refine A.neb rfl rfl rfl rfl ?_ | refine A.eqs rfl rfl ?_ | refine A.nes rfl rfl ?_ | refine A.lts rfl rfl ?_ | refine A.gts rfl rfl ?_
        | refine A.not rfl ?_ | refine A.extract rfl rfl ?_ | refine A.add64 rfl rfl rfl (by omega) ?_ | refine A.sub64 rfl rfl rfl (by omega) ?_
        | refine A.callS 0 rfl hlg rfl rfl rfl (Tbls.closed _) (Tbls.closed _) (Entry.closedL _) (Entry.closedL _) (by simp only [AV.closed]; exact Entry.closedL _) (WeakL.refl _) rfl rfl ?_
      change HCode _ _ _ _ _ _ _
      refine HCode.loop (fun n s σ => ∃ (j B R : Nat) (q : List Tbl), n = ops.length - j ∧ j ≤ ops.length ∧ m = playA (ops.drop j) q ∧ Slims B R q ∧ B + sumSize askW (ops.drop j) ≤ 1048576 - 2 ∧
        R + sumSize askR (ops.drop j) ≤ 1048576 * 32 ∧ σ = Sto m es ∧ s = [(9, .int .i64 j), (8, .slice (es.map Entry.enc) .no), (7, Tbls.enc q), (5, .ptr 0 0), (1, .slice (ops.map Ask.enc) .no)])
        (s0 := [(9, .int .i64 (0 : Nat)), (8, .slice (es.map Entry.enc) .no), (7, Tbls.enc l), (5, .ptr 0 0), (1, .slice (ops.map Ask.enc) .no)]) ⟨rfl, rfl, rfl, rfl, rfl, trivial⟩
        ⟨0, tabSize l, tabSize l, l, rfl, Nat.zero_le _, hp.symm, slims_of (Nat.le_refl _), by rw [List.drop_zero]; omega, by rw [List.drop_zero]; omega, rfl, rfl⟩ ?_
      rintro n s σ ⟨j, B', R', q, rfl, hj, hq, hsq, hB', hRR', rfl, rfl⟩
      by_cases h2 : j < ops.length
      · have h2' : j < es.length := by omega
        have d4 : decide ((j : Int) < (es.length : Int)) = true := by simp [h2']
        have x1 : (es.map Entry.enc)[j]? = some (logOf ops[j]).enc := by
          have : es[j]? = some (logOf ops[j]) := by rw [hes]; simp [h2]
          rw [List.getElem?_map, this]; rfl
        rw [playA_drop h2] at hq
        rw [sumSize_drop askW h2] at hB'
        rw [sumSize_drop askR h2] at hRR'
        have hsl2 := step_slims hsq ops[j]
        have hstep := logOf_step ops[j] q
        have hae : (logOf ops[j]).c.args.length ≤ ops[j].c.args.length := by unfold logOf; split <;> simp [c0]
        have hcd := cmdDo q (logOf ops[j]).c hsq.fine (by have : askW ops[j] = ops[j].c.args.length + 1 := rfl; omega)
        obtain ⟨E, hE⟩ : ∃ E, E = logOf ops[j] := ⟨_, rfl⟩
        rw [← hE] at x1 hstep hcd
        cases hn : (E.c.name != []) <;> rw [hn] at hstep
        · repeat' first
            | refine A.field_r rfl rfl rfl rfl ?_
            | refine HCode.seq ?_ | refine HCode.region rfl ?_ | refine HCode.region_draw Lay.mix rfl ?_ | refine HCode.block ?_ | refine HCode.scope ?_ | refine HCode.skip ?_ | refine HCode.label ?_ | refine HCode.exit ?_ | refine HCode.ret ?_
            | refine HCode.cond_true rfl ?_ | refine HCode.cond_false rfl ?_ | refine HCode.cond_yes rfl (by assumption) ?_ | refine HCode.cond_no rfl (by assumption) ?_ | (refine HCode.cond rfl ?_ ?_ <;> intro hc)
            | refine A.nil_seq ?_ | refine A.nil (fun _ => rfl) ?_ | refine A.dead rfl ?_ | refine A.yes rfl rfl ?_ | refine A.no rfl rfl ?_ | refine A.yes rfl (by assumption) ?_ | refine A.no rfl (by assumption) ?_ | (refine A.guard rfl ?_ ?_ <;> intro hc)
            | refine A.move rfl ?_ | refine A.assign rfl ?_ | refine A.load_b rfl rfl rfl rfl ?_ | refine A.load_r rfl rfl rfl ?_ | refine A.field_b rfl rfl rfl rfl rfl rfl ?_ | refine A.field_r rfl rfl rfl rfl rfl rfl ?_ | refine A.field rfl rfl rfl rfl rfl ?_
            | refine A.index_r rfl rfl rfl rfl rfl rfl (by assumption) rfl ?_ | refine A.len rfl rfl rfl (by first | rw [List.length_map] | rfl) ?_ | refine A.lens rfl rfl rfl rfl ?_
            | refine A.pick_true rfl rfl rfl ?_ | refine A.pick_false rfl rfl rfl ?_ | refine A.pick_true rfl (by assumption) rfl ?_ | refine A.pick_false rfl (by assumption) rfl ?_
            | refine A.box rfl rfl rfl ?_ | refine A.alloc rfl rfl rfl ?_ | refine A.store rfl rfl rfl rfl rfl ?_ | refine A.build rfl rfl rfl rfl ?_ | refine A.buildSlice rfl rfl rfl rfl rfl rfl rfl ?_
            | refine A.eqi rfl rfl ?_ | refine A.nei rfl rfl ?_ | refine A.lss rfl rfl ?_ | refine A.leq rfl rfl ?_ | refine A.gtr rfl rfl ?_ | refine A.geq rfl rfl ?_ | refine A.eqb rfl rfl rfl rfl ?_ | refine A.neb rfl rfl rfl rfl ?_ | refine A.eqs rfl rfl ?_ | refine A.nes rfl rfl ?_ | refine A.lts rfl rfl ?_ | refine A.gts rfl rfl ?_
            | refine A.not rfl ?_ | refine A.extract rfl rfl ?_ | refine A.add64 rfl rfl rfl (by omega) ?_ | refine A.sub64 rfl rfl rfl (by omega) ?_
            | refine A.call rfl hcd (WeakL.refl _) ?_
          have hq' : stepA ops[j] q = q := hstep
          rw [hq'] at hq hsl2
          exact ⟨ops.length - (j + 1), by omega, [(9, .int .i64 ((j + 1 : Nat) : Int)), (8, .slice (es.map Entry.enc) .no), (7, Tbls.enc q), (5, .ptr 0 0), (1, .slice (ops.map Ask.enc) .no)], ⟨rfl, rfl, rfl, rfl, rfl, trivial⟩,
            by simp [belowS, AV.low, hlo, hlow, Tbls.enc, Tbl.lowL], by simp [belowB, belowT, Tok.low, Ob.low, AV.low, AV.lowL, Entry.lowL, Tbls.enc, Tbl.lowL], j + 1, _, _, _, rfl, by omega, hq, hsl2, by omega, by omega, rfl, rfl⟩
        · repeat' first
            | refine A.field_r rfl rfl rfl rfl ?_
            | refine HCode.seq ?_ | refine HCode.region rfl ?_ | refine HCode.region_draw Lay.mix rfl ?_ | refine HCode.block ?_ | refine HCode.scope ?_ | refine HCode.skip ?_ | refine HCode.label ?_ | refine HCode.exit ?_ | refine HCode.ret ?_
            | refine HCode.cond_true rfl ?_ | refine HCode.cond_false rfl ?_ | refine HCode.cond_yes rfl (by assumption) ?_ | refine HCode.cond_no rfl (by assumption) ?_ | (refine HCode.cond rfl ?_ ?_ <;> intro hc)
            | refine A.nil_seq ?_ | refine A.nil (fun _ => rfl) ?_ | refine A.dead rfl ?_ | refine A.yes rfl rfl ?_ | refine A.no rfl rfl ?_ | refine A.yes rfl (by assumption) ?_ | refine A.no rfl (by assumption) ?_ | (refine A.guard rfl ?_ ?_ <;> intro hc)
            | refine A.move rfl ?_ | refine A.assign rfl ?_ | refine A.load_b rfl rfl rfl rfl ?_ | refine A.load_r rfl rfl rfl ?_ | refine A.field_b rfl rfl rfl rfl rfl rfl ?_ | refine A.field_r rfl rfl rfl rfl rfl rfl ?_ | refine A.field rfl rfl rfl rfl rfl ?_
            | refine A.index_r rfl rfl rfl rfl rfl rfl (by assumption) rfl ?_ | refine A.len rfl rfl rfl (by first | rw [List.length_map] | rfl) ?_ | refine A.lens rfl rfl rfl rfl ?_
            | refine A.pick_true rfl rfl rfl ?_ | refine A.pick_false rfl rfl rfl ?_ | refine A.pick_true rfl (by assumption) rfl ?_ | refine A.pick_false rfl (by assumption) rfl ?_
            | refine A.box rfl rfl rfl ?_ | refine A.alloc rfl rfl rfl ?_ | refine A.store rfl rfl rfl rfl rfl ?_ | refine A.build rfl rfl rfl rfl ?_ | refine A.buildSlice rfl rfl rfl rfl rfl rfl rfl ?_
            | refine A.eqi rfl rfl ?_ | refine A.nei rfl rfl ?_ | refine A.lss rfl rfl ?_ | refine A.leq rfl rfl ?_ | refine A.gtr rfl rfl ?_ | refine A.geq rfl rfl ?_ | refine A.eqb rfl rfl rfl rfl ?_ | refine A.neb rfl rfl rfl rfl ?_ | refine A.eqs rfl rfl ?_ | refine A.nes rfl rfl ?_ | refine A.lts rfl rfl ?_ | refine A.gts rfl rfl ?_
            | refine A.not rfl ?_ | refine A.extract rfl rfl ?_ | refine A.add64 rfl rfl rfl (by omega) ?_ | refine A.sub64 rfl rfl rfl (by omega) ?_
            | refine A.call rfl hcd (WeakL.refl _) ?_
          have hq' : stepA ops[j] q = (cmdG q E.c).1 := hstep
          rw [hq'] at hq hsl2
          exact ⟨ops.length - (j + 1), by omega, [(9, .int .i64 ((j + 1 : Nat) : Int)), (8, .slice (es.map Entry.enc) .no), (7, Tbls.enc (cmdG q E.c).1), (5, .ptr 0 0), (1, .slice (ops.map Ask.enc) .no)], ⟨rfl, rfl, rfl, rfl, rfl, trivial⟩,
            by simp [belowS, AV.low, hlo, hlow, Tbls.enc, Tbl.lowL], by simp [belowB, belowT, Tok.low, Ob.low, AV.low, AV.lowL, Entry.lowL, Tbls.enc, Tbl.lowL], j + 1, _, _, _, rfl, by omega, hq, hsl2, by omega, by omega, rfl, rfl⟩
      · have d4 : decide ((j : Int) < (es.length : Int)) = false := by simp; omega
        rw [List.drop_eq_nil_of_le (by omega), playA] at hq
        subst hq
        have e3 : ((es.length : Int) == (ops.length : Int)) = true := by simp [hel']
        repeat' first
          | refine HCode.seq ?_ | refine HCode.region rfl ?_ | refine HCode.region_draw Lay.mix rfl ?_ | refine HCode.block ?_ | refine HCode.scope ?_ | refine HCode.skip ?_ | refine HCode.label ?_ | refine HCode.exit ?_ | refine HCode.ret ?_
          | refine HCode.cond_true rfl ?_ | refine HCode.cond_false rfl ?_ | refine HCode.cond_yes rfl (by assumption) ?_ | refine HCode.cond_no rfl (by assumption) ?_ | (refine HCode.cond rfl ?_ ?_ <;> intro hc)
          | refine A.nil_seq ?_ | refine A.nil (fun _ => rfl) ?_ | refine A.dead rfl ?_ | refine A.yes rfl rfl ?_ | refine A.no rfl rfl ?_ | refine A.yes rfl (by assumption) ?_ | refine A.no rfl (by assumption) ?_ | (refine A.guard rfl ?_ ?_ <;> intro hc)
          | refine A.move rfl ?_ | refine A.assign rfl ?_ | refine A.load_b rfl rfl rfl rfl ?_ | refine A.load_r rfl rfl rfl ?_ | refine A.field_b rfl rfl rfl rfl rfl rfl ?_ | refine A.field_r rfl rfl rfl rfl rfl rfl ?_ | refine A.field rfl rfl rfl rfl rfl ?_
          | refine A.index_r rfl rfl rfl rfl rfl rfl (by assumption) rfl ?_ | refine A.len rfl rfl rfl (by first | rw [List.length_map] | rfl) ?_ | refine A.lens rfl rfl rfl rfl ?_
          | refine A.pick_true rfl rfl rfl ?_ | refine A.pick_false rfl rfl rfl ?_ | refine A.pick_true rfl (by assumption) rfl ?_ | refine A.pick_false rfl (by assumption) rfl ?_
          | refine A.box rfl rfl rfl ?_ | refine A.alloc rfl rfl rfl ?_ | refine A.store rfl rfl rfl rfl rfl ?_ | refine A.build rfl rfl rfl rfl ?_ | refine A.buildSlice rfl rfl rfl rfl rfl rfl rfl ?_
          | refine A.eqi rfl rfl ?_ | refine A.nei rfl rfl ?_ | refine A.lss rfl rfl ?_ | refine A.leq rfl rfl ?_ | refine A.gtr rfl rfl ?_ | refine A.geq rfl rfl ?_ | refine A.eqb rfl rfl rfl rfl ?_ | refine A.neb rfl rfl rfl rfl ?_ | refine A.eqs rfl rfl ?_ | refine A.nes rfl rfl ?_ | refine A.lts rfl rfl ?_ | refine A.gts rfl rfl ?_
          | refine A.not rfl ?_ | refine A.extract rfl rfl ?_ | refine A.add64 rfl rfl rfl (by omega) ?_ | refine A.sub64 rfl rfl rfl (by omega) ?_
          | refine A.callS 0 rfl hta rfl rfl rfl (Tbls.closed _) (Tbls.closed _) (Entry.closedL _) (Entry.closedL _) (Tbls.closed _) (WeakL.refl _) rfl rfl ?_ | refine A.call rfl hst (WeakL.refl _) ?_ | refine A.call rfl hw (WeakL.refl _) ?_
        all_goals exact Fin.ret1 rfl (Weak.refl _)
  all_goals repeat' first
              | refine HCode.seq ?_ | refine HCode.region rfl ?_ | refine HCode.region_draw Lay.mix rfl ?_ | refine HCode.block ?_ | refine HCode.scope ?_ | refine HCode.skip ?_ | refine HCode.label ?_ | refine HCode.exit ?_ | refine HCode.ret ?_
              | refine HCode.cond_true rfl ?_ | refine HCode.cond_false rfl ?_ | refine HCode.cond_yes rfl (by assumption) ?_ | refine HCode.cond_no rfl (by assumption) ?_ | (refine HCode.cond rfl ?_ ?_ <;> intro hc)
              | refine A.nil_seq ?_ | refine A.nil (fun _ => rfl) ?_ | refine A.dead rfl ?_ | refine A.yes rfl rfl ?_ | refine A.no rfl rfl ?_ | refine A.yes rfl (by assumption) ?_ | refine A.no rfl (by assumption) ?_ | (refine A.guard rfl ?_ ?_ <;> intro hc)
              | refine A.move rfl ?_ | refine A.assign rfl ?_ | refine A.load_b rfl rfl rfl rfl ?_ | refine A.load_r rfl rfl rfl ?_ | refine A.field_b rfl rfl rfl rfl rfl rfl ?_ | refine A.field_r rfl rfl rfl rfl rfl rfl ?_ | refine A.field rfl rfl rfl rfl rfl ?_
              | refine A.index_r rfl rfl rfl rfl rfl rfl (by assumption) rfl ?_ | refine A.len rfl rfl rfl (by first | rw [List.length_map] | rfl) ?_ | refine A.lens rfl rfl rfl rfl ?_
              | refine A.pick_true rfl rfl rfl ?_ | refine A.pick_false rfl rfl rfl ?_ | refine A.pick_true rfl (by assumption) rfl ?_ | refine A.pick_false rfl (by assumption) rfl ?_
              | refine A.box rfl rfl rfl ?_ | refine A.alloc rfl rfl rfl ?_ | refine A.store rfl rfl rfl rfl rfl ?_ | refine A.build rfl rfl rfl rfl ?_ | refine A.buildSlice rfl rfl rfl rfl rfl rfl rfl ?_
              | refine A.eqi rfl rfl ?_ | refine A.nei rfl rfl ?_ | refine A.lss rfl rfl ?_ | refine A.leq rfl rfl ?_ | refine A.gtr rfl rfl ?_ | refine A.geq rfl rfl ?_ | refine A.eqb rfl rfl rfl rfl ?_ | refine A.neb rfl rfl rfl rfl ?_ | refine A.eqs rfl rfl ?_ | refine A.nes rfl rfl ?_ | refine A.lts rfl rfl ?_ | refine A.gts rfl rfl ?_
              | refine A.not rfl ?_ | refine A.extract rfl rfl ?_ | refine A.add64 rfl rfl rfl (by omega) ?_ | refine A.sub64 rfl rfl rfl (by omega) ?_
              | refine A.call rfl hl (WeakL.refl _) ?_ | refine A.call rfl hL (WeakL.refl _) ?_ | refine A.call rfl hw (WeakL.refl _) ?_
  all_goals exact Fin.ret1 rfl (Weak.refl _)
end Go.Proofs.Ytajddgpkflbnaaa
