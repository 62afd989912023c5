/-
  Plain laws of commands: a put again, a cut, a cut again.
-/
import Derived.Test.YtajddgpkflbnaaaDoorMCmdP
namespace Go.Proofs.YtajddgpkflbnaaaDoor
open Go Go.Av
set_option maxRecDepth 100000
set_option linter.unusedVariables false
set_option linter.unusedSimpArgs false

theorem fidx_set {α : Type} {p : α → Bool} : ∀ {l : List α} {i : Nat} {y : α}, fidx p l = some i → p y = true → fidx p (l.set i y) = some i
  | [], _, _, h, _ => by cases h
  | x :: l, i, y, h, hy => by
    rw [fidx] at h
    by_cases c : p x = true
    · rw [if_pos c] at h; cases h
      rw [List.set_cons_zero, fidx, if_pos hy]
    · rw [if_neg c] at h
      cases e : fidx p l with
      | none => rw [e] at h; cases h
      | some j =>
        rw [e] at h; cases h
        rw [List.set_cons_succ, fidx, if_neg c, fidx_set e hy]; rfl
theorem fidx_snoc {α : Type} {p : α → Bool} : ∀ {l : List α} {y : α}, fidx p l = none → p y = true → fidx p (l ++ [y]) = some l.length
  | [], y, _, hy => by rw [List.nil_append, fidx, if_pos hy]; rfl
  | x :: l, y, h, hy => by
    have hx := fidx_none h x (by simp)
    rw [fidx, hx, if_neg (by simp)] at h
    have h' : fidx p l = none := by cases e : fidx p l <;> simp_all
    rw [List.cons_append, fidx, hx, if_neg (by simp), fidx_snoc h' hy]; rfl
theorem set_set' {α : Type} {l : List α} {i : Nat} {x y : α} : (l.set i x).set i y = l.set i y := List.set_set ..
theorem putRows_put (rows : List Row) (r : Row) : putRows (putRows rows r) r = putRows rows r := by
  unfold putRows
  cases e : fidx (fun x : Row => x.key == r.key) rows with
  | none =>
    dsimp only
    rw [fidx_snoc e (by simp)]
    simp
  | some k =>
    dsimp only
    rw [fidx_set e (by simp)]
    exact set_set'
theorem putG_put (l : List Tbl) (name : Str) (r : Row) : putG (putG l name r) name r = putG l name r := by
  unfold putG
  cases e : fidx (fun t : Tbl => t.name == name) l with
  | none =>
    dsimp only
    rw [fidx_snoc e (by simp)]
    dsimp only
    rw [modAt_eq (by simp)]
    simp [putRows, fidx]
  | some i =>
    obtain ⟨hi, hp⟩ := fidx_some e
    dsimp only
    rw [modAt_eq hi, fidx_set e (by simpa using hp)]
    dsimp only
    rw [modAt_eq (by simpa using hi), set_set']
    simp [putRows_put]
theorem setG_set (l : List Mem) (n : Str) (v : Val) : setG (setG l n v) n v = setG l n v := by
  unfold setG
  cases e : fidx (fun m : Mem => m.name == n) l with
  | none =>
    dsimp only
    rw [fidx_snoc e (by simp [Mem.name])]
    dsimp only
    rw [modAt_eq (by simp)]
    simp [Mem.name]
  | some i =>
    obtain ⟨hi, hp⟩ := fidx_some e
    dsimp only
    rw [modAt_eq hi, fidx_set e (by simpa [Mem.name] using hp)]
    dsimp only
    rw [modAt_eq (by simpa using hi), set_set']
    simp [Mem.name]
theorem getG_set : ∀ (l : List Mem) (n : Str) (v : Val), (getG n (setG l n v)).1 = v
  | [], n, v => by simp [setG, fidx, getG, Mem.name, Mem.v]
  | m :: l, n, v => by
    have ih := getG_set l n v
    unfold setG at ih ⊢
    rw [fidx]
    by_cases c : (m.name == n) = true
    · rw [if_pos c]
      dsimp only
      rw [modAt_eq (by simp)]
      rw [List.set_cons_zero, getG]
      rw [if_pos (by simpa [Mem.name] using c)]
      rfl
    · rw [if_neg c]
      cases e : fidx (fun m : Mem => m.name == n) l with
      | none =>
        rw [e] at ih
        dsimp only [Option.map_none] at ih ⊢
        rw [List.cons_append, getG, if_neg c]
        exact ih
      | some i =>
        obtain ⟨hi, hp⟩ := fidx_some e
        rw [e] at ih
        dsimp only [Option.map_some] at ih ⊢
        rw [modAt_eq hi] at ih
        rw [modAt_eq (by simpa using hi), List.set_cons_succ, getG, if_neg c]
        exact ih

/-- No two rows of a table have one key. -/
def Uniq (l : List Tbl) : Prop := ∀ t ∈ l, (t.rows.map Row.key).Nodup
theorem uniq_of {gv st : Val → Bool} {l : List Tbl} (h : tblsOk gv st l [] = true) : Uniq l := fun t ht => ((rowsOk_iff gv st _ []).1 (((tblsOk_iff gv st l []).1 h).2.2 t ht).2).2.1
theorem putRows_uniq {rows : List Row} {r : Row} (h : (rows.map Row.key).Nodup) : ((putRows rows r).map Row.key).Nodup := by
  unfold putRows
  split
  · rename_i hn
    have hn' := fidx_none hn
    rw [List.map_append, List.nodup_append]
    refine ⟨h, by simp, fun a ha b hb => ?_⟩
    obtain ⟨x, hx, rfl⟩ := List.mem_map.1 ha
    have hb' : b = r.key := by simpa using hb
    subst hb'
    have := hn' x hx
    simpa using this
  · rename_i k hk
    obtain ⟨hkl, hp⟩ := fidx_some hk
    rw [map_set_same (f := Row.key) (fun _ => by simpa using (beq_iff_eq.1 hp).symm)]; exact h
theorem putG_uniq {l : List Tbl} {name : Str} {r : Row} (h : Uniq l) : Uniq (putG l name r) := fun t ht => by
  rcases putG_mem ht with h1 | h1 | ⟨y, hy, h1⟩
  · exact h t h1
  · rw [h1]; simp
  · rw [h1]; exact putRows_uniq (h y hy)
theorem find_cut_uniq {l : List Tbl} (name key : Str) (h : Uniq l) : findG (cutG l name key) ⟨name, key⟩ = gotNone := by
  unfold findG cutG
  cases e : fidx (fun t : Tbl => t.name == name) l with
  | none => dsimp only; rw [find_none e]
  | some i =>
    obtain ⟨hi, hp⟩ := fidx_some e
    dsimp only
    rw [modAt_eq hi, find_hit e (by simpa using hp)]
    dsimp only
    have hn := h _ (List.getElem_mem hi)
    unfold cutRows
    cases e2 : fidx (fun x : Row => x.key == key) l[i].rows with
    | none => dsimp only; rw [find_none e2]
    | some k =>
      obtain ⟨hk2, hp2⟩ := fidx_some e2
      have e4 : l[i].rows[k].key = key := beq_iff_eq.1 hp2
      dsimp only
      have : (l[i].rows.take k ++ l[i].rows.drop (k + 1)).find? (fun r => r.key == key) = none := by
        rw [List.find?_eq_none]
        intro x hx hx2
        have hx3 : x.key = key := by simpa using hx2
        have e5 : l[i].rows = l[i].rows.take k ++ l[i].rows[k] :: l[i].rows.drop (k + 1) := by rw [← List.drop_eq_getElem_cons hk2, List.take_append_drop]
        rw [e5, List.map_append, List.map_cons, List.nodup_append] at hn
        obtain ⟨h1, h2, h3⟩ := hn
        rw [List.nodup_cons] at h2
        rcases List.mem_append.1 hx with hx | hx
        · exact h3 x.key (List.mem_map.2 ⟨x, hx, rfl⟩) l[i].rows[k].key (by simp) (by rw [hx3, e4])
        · exact h2.1 (List.mem_map.2 ⟨x, hx, by rw [hx3, e4]⟩)
      rw [this]

/-- The command that puts one column, or that cuts. -/
def oneCmd (what name key typ : Str) (v : Val) : Cmd := ⟨what, name, [], typ, [.mk sKey (textV key), .mk [120] v]⟩
def oneRow (l : List Tbl) (name key typ : Str) (v : Val) : Row := putRow (oneCmd sPut name key typ v) key (findG l ⟨name, key⟩)
theorem one_key (what name key typ : Str) (v : Val) : (getG sKey (oneCmd what name key typ v).args).1 = textV key := rfl
theorem one_cols (what name key typ : Str) (v : Val) (cols : List Mem) : putCols (oneCmd what name key typ v).args cols = setG cols [120] v := rfl
theorem cmdG_one (l : List Tbl) (what name key typ : Str) (v : Val) : cmdG l (oneCmd what name key typ v) =
    if (!knownG what) = true then (l, val0, 1) else if (what == sBurn) = true then (l, val0, 11)
    else if ((findG l ⟨name, key⟩).e != 0) = true then (l, val0, (findG l ⟨name, key⟩).e)
    else if (what == sPut) = true then (putG l name (putRow (oneCmd what name key typ v) key (findG l ⟨name, key⟩)), textV key, 0)
    else if (!(findG l ⟨name, key⟩).is) = true then (l, val0, 6)
    else if (what == sCut) = true then (cutG l name key, textV key, 0)
    else addG l (oneCmd what name key typ v) (findG l ⟨name, key⟩).row := rfl
theorem oneRow_key (l : List Tbl) (name key typ : Str) (v : Val) : (oneRow l name key typ v).key = key := by
  unfold oneRow putRow
  dsimp only
  split
  · rename_i h; exact findG_key h
  · rfl
theorem oneRow_ok {l : List Tbl} {name key typ : Str} {v : Val} (h : (findG l ⟨name, key⟩).e = 0) : (oneRow l name key typ v).broken = false := by
  unfold oneRow putRow
  dsimp only
  split
  · rename_i hi
    unfold findG at h hi ⊢
    cases ht : l.find? (fun t => t.name == name) with
    | none => rw [ht] at hi; cases hi
    | some t =>
      rw [ht] at h hi
      dsimp only at h hi ⊢
      cases hr : t.rows.find? (fun r => r.key == key) with
      | none => rw [hr] at hi; cases hi
      | some r =>
        rw [hr] at h hi
        dsimp only at h hi ⊢
        unfold gotOf at h hi ⊢
        by_cases hb : r.broken = true
        · rw [if_pos hb] at hi; cases hi
        · rw [if_neg hb]; simpa using hb
  · rfl
theorem oneRow_col (l : List Tbl) (name key typ : Str) (v : Val) : colG (oneRow l name key typ v) [120] = v := by
  unfold oneRow putRow colG
  dsimp only
  rw [one_cols]
  exact getG_set _ _ _
theorem oneRow_typ (l : List Tbl) (name key typ : Str) (v : Val) : (oneRow l name key typ v).typ = if (findG l ⟨name, key⟩).is then (findG l ⟨name, key⟩).row.typ else typ := by
  unfold oneRow putRow
  dsimp only
  split <;> rfl
theorem one_put {l : List Tbl} {name key typ : Str} {v : Val} (h : (findG l ⟨name, key⟩).e = 0) :
    cmdG l (oneCmd sPut name key typ v) = (putG l name (oneRow l name key typ v), textV key, 0) := by
  rw [cmdG_one, if_neg (by decide), if_neg (by decide), if_neg (by rw [h]; decide), if_pos (by decide)]
  rfl
theorem one_err {l : List Tbl} {name key typ : Str} {v : Val} (h : (findG l ⟨name, key⟩).e ≠ 0) : cmdG l (oneCmd sPut name key typ v) = (l, val0, (findG l ⟨name, key⟩).e) := by
  rw [cmdG_one, if_neg (by decide), if_neg (by decide), if_pos (by simpa using h)]
theorem one_find {l : List Tbl} {name key typ : Str} {v : Val} (h : (findG l ⟨name, key⟩).e = 0) : findG (putG l name (oneRow l name key typ v)) ⟨name, key⟩ = ⟨oneRow l name key typ v, true, 0⟩ := by
  have h1 := find_put l name (oneRow l name key typ v)
  rw [oneRow_key] at h1
  rw [h1]
  unfold gotOf
  rw [oneRow_ok h]; rfl
theorem one_again {l : List Tbl} {name key typ : Str} {v : Val} (h : (findG l ⟨name, key⟩).e = 0) :
    cmdG (putG l name (oneRow l name key typ v)) (oneCmd sPut name key typ v) = (putG l name (oneRow l name key typ v), textV key, 0) := by
  have h2 := one_find (typ := typ) (v := v) h
  rw [one_put (by rw [h2])]
  have e : oneRow (putG l name (oneRow l name key typ v)) name key typ v = oneRow l name key typ v := by
    show putRow (oneCmd sPut name key typ v) key (findG (putG l name (oneRow l name key typ v)) ⟨name, key⟩) = _
    rw [h2]
    unfold putRow
    dsimp only
    rw [if_pos rfl, one_cols]
    have : (oneRow l name key typ v).cols = setG (if (findG l ⟨name, key⟩).is then (findG l ⟨name, key⟩).row else ⟨key, typ, [], false⟩).cols [120] v := by
      conv => lhs; unfold oneRow putRow
      dsimp only
      rw [one_cols]
      rfl
    rw [this, setG_set, ← this]
  rw [e, putG_put]
theorem one_cut {l : List Tbl} {name key typ : Str} {v : Val} {r : Row} (h : findG l ⟨name, key⟩ = ⟨r, true, 0⟩) : cmdG l (oneCmd sCut name key typ v) = (cutG l name key, textV key, 0) := by
  rw [cmdG_one, h, if_neg (by decide), if_neg (by decide), if_neg (by simp), if_neg (by decide), if_neg (by simp), if_pos (by decide)]
theorem one_gone {l : List Tbl} {name key typ : Str} {v : Val} (h : findG l ⟨name, key⟩ = gotNone) : cmdG l (oneCmd sCut name key typ v) = (l, val0, 6) := by
  rw [cmdG_one, h, if_neg (by decide), if_neg (by decide), if_neg (by decide), if_neg (by decide), if_pos (by decide)]
end Go.Proofs.YtajddgpkflbnaaaDoor
