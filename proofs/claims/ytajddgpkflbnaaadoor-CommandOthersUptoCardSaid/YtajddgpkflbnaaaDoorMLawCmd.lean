/-
  The laws CommandSays, CommandRefused: the functions.
-/
import Derived.Test.YtajddgpkflbnaaaDoorMDo2
import Derived.Test.YtajddgpkflbnaaaDoorMCopy
import Derived.Test.YtajddgpkflbnaaaDoorMSize
namespace Go.Proofs.YtajddgpkflbnaaaDoor
open Go Go.Av
set_option maxRecDepth 100000
set_option maxHeartbeats 16000000
set_option linter.unusedVariables false
set_option linter.unusedSimpArgs false
attribute [local irreducible] HCode AOps PFn AFn Av.Step TStep

theorem arg (n : Str) (v : Val) : PFn Tryd.prog 43 [.str n, v.enc] (Mem.mk n v).enc := by
  refine AFn.plain (Mem.closed _) (by simp [AV.closedL, AV.closed, Val.closed]) (AFn.enterR [.cell 4 69] Tryd.func43 rfl rfl rfl rfl rfl ?_)
  repeat' first
    | refine A.box_r rfl rfl ?_
    | refine HCode.seq ?_ | refine HCode.region rfl ?_ | refine HCode.region_draw Lay.mix rfl ?_ | refine HCode.block ?_ | refine HCode.scope ?_ | refine HCode.skip ?_ | refine HCode.label ?_ | refine HCode.exit ?_ | refine HCode.ret ?_
    | refine HCode.cond_true rfl ?_ | refine HCode.cond_false rfl ?_ | refine HCode.cond_yes rfl (by assumption) ?_ | refine HCode.cond_no rfl (by assumption) ?_ | (refine HCode.cond rfl ?_ ?_ <;> intro hc)
    | refine A.nil_seq ?_ | refine A.nil (fun _ => rfl) ?_ | refine A.dead rfl ?_ | refine A.yes rfl rfl ?_ | refine A.no rfl rfl ?_ | refine A.yes rfl (by assumption) ?_ | refine A.no rfl (by assumption) ?_ | (refine A.guard rfl ?_ ?_ <;> intro hc)
    | refine A.move rfl ?_ | refine A.assign rfl ?_ | refine A.load_b rfl rfl rfl rfl ?_ | refine A.load_r rfl rfl rfl ?_ | refine A.field_b rfl rfl rfl rfl rfl rfl ?_ | refine A.field_r rfl rfl rfl rfl rfl rfl ?_ | refine A.field rfl rfl rfl rfl rfl ?_
    | refine A.index_r rfl rfl rfl rfl rfl rfl (by assumption) rfl ?_ | refine A.len rfl rfl rfl (by first | rw [List.length_map] | rfl) ?_ | refine A.lens rfl rfl rfl rfl ?_
    | refine A.pick_true rfl rfl rfl ?_ | refine A.pick_false rfl rfl rfl ?_ | refine A.pick_true rfl (by assumption) rfl ?_ | refine A.pick_false rfl (by assumption) rfl ?_
    | refine A.box rfl rfl rfl ?_ | refine A.alloc rfl rfl rfl ?_ | refine A.store rfl rfl rfl rfl rfl ?_ | refine A.build rfl rfl rfl rfl ?_ | refine A.buildSlice rfl rfl rfl rfl rfl rfl rfl ?_
    | refine A.eqi rfl rfl ?_ | refine A.nei rfl rfl ?_ | refine A.lss rfl rfl ?_ | refine A.leq rfl rfl ?_ | refine A.gtr rfl rfl ?_ | refine A.geq rfl rfl ?_ | refine A.eqb rfl rfl rfl rfl ?_ | refine A.neb rfl rfl rfl rfl ?_ | refine A.eqs rfl rfl ?_ | refine A.nes rfl rfl ?_ | refine A.lts rfl rfl ?_ | refine A.gts rfl rfl ?_
    | refine A.not rfl ?_ | refine A.extract rfl rfl ?_ | refine A.add64 rfl rfl rfl (by omega) ?_ | refine A.sub64 rfl rfl rfl (by omega) ?_
    | fail
  exact FinR.ret1 rfl (Weak.refl _)

def aCmd : Cmd := ⟨sPut, [116], [], [84], [.mk sKey (textV [107]), .mk [97] (intV 1)]⟩
def aTbl : List Tbl := [⟨[116], [⟨[107], [84], [.mk [97] (intV 1)], false⟩]⟩]
def bCmd : Cmd := ⟨sBurn, [], [], [], []⟩
theorem aDo : cmdG [] aCmd = (aTbl, textV [107], 0) := rfl
theorem bDo : cmdG aTbl bCmd = (aTbl, val0, 11) := rfl
theorem fineA : Fine 10 aTbl := ⟨by decide, by simp [aTbl], by simp [aTbl]⟩
theorem fine0 : Fine 0 [] := ⟨by decide, by simp, by simp⟩

theorem awake : PFn Tryd.prog 39 [] (.bool true) := by
  refine AFn.plain rfl rfl (AFn.enter [0] Tryd.func39 rfl rfl rfl rfl rfl (by decide) ?_)
  have h1 := cmdDo [] aCmd fine0 (by decide)
  have h2 := cmdDo aTbl bCmd fineA (by decide)
  rw [aDo] at h1
  rw [bDo] at h2
  have a1 := arg sKey (textV [107])
  have a2 := arg [97] (intV 1)
  have hk := known sCut
  repeat' first
    | refine HCode.seq ?_ | refine HCode.region rfl ?_ | refine HCode.region_draw Lay.mix rfl ?_ | refine HCode.block ?_ | refine HCode.scope ?_ | refine HCode.skip ?_ | refine HCode.label ?_ | refine HCode.exit ?_ | refine HCode.ret ?_
    | refine HCode.cond_true rfl ?_ | refine HCode.cond_false rfl ?_ | refine HCode.cond_yes rfl (by assumption) ?_ | refine HCode.cond_no rfl (by assumption) ?_ | (refine HCode.cond rfl ?_ ?_ <;> intro hc)
    | refine A.nil_seq ?_ | refine A.nil (fun _ => rfl) ?_ | refine A.dead rfl ?_ | refine A.yes rfl rfl ?_ | refine A.no rfl rfl ?_ | refine A.yes rfl (by assumption) ?_ | refine A.no rfl (by assumption) ?_ | (refine A.guard rfl ?_ ?_ <;> intro hc)
    | refine A.move rfl ?_ | refine A.assign rfl ?_ | refine A.load_b rfl rfl rfl rfl ?_ | refine A.load_r rfl rfl rfl ?_ | refine A.field_b rfl rfl rfl rfl rfl rfl ?_ | refine A.field_r rfl rfl rfl rfl rfl rfl ?_ | refine A.field rfl rfl rfl rfl rfl ?_
    | refine A.index_r rfl rfl rfl rfl rfl rfl (by assumption) rfl ?_ | refine A.len rfl rfl rfl (by first | rw [List.length_map] | rfl) ?_ | refine A.lens rfl rfl rfl rfl ?_
    | refine A.pick_true rfl rfl rfl ?_ | refine A.pick_false rfl rfl rfl ?_ | refine A.pick_true rfl (by assumption) rfl ?_ | refine A.pick_false rfl (by assumption) rfl ?_
    | refine A.box rfl rfl rfl ?_ | refine A.alloc rfl rfl rfl ?_ | refine A.store rfl rfl rfl rfl rfl ?_ | refine A.build rfl rfl rfl rfl ?_ | refine A.buildSlice rfl rfl rfl rfl rfl rfl rfl ?_
    | refine A.eqi rfl rfl ?_ | refine A.nei rfl rfl ?_ | refine A.lss rfl rfl ?_ | refine A.leq rfl rfl ?_ | refine A.gtr rfl rfl ?_ | refine A.geq rfl rfl ?_ | refine A.eqb rfl rfl rfl rfl ?_ | refine A.neb rfl rfl rfl rfl ?_ | refine A.eqs rfl rfl ?_ | refine A.nes rfl rfl ?_ | refine A.lts rfl rfl ?_ | refine A.gts rfl rfl ?_
    | refine A.not rfl ?_ | refine A.extract rfl rfl ?_ | refine A.add64 rfl rfl rfl (by omega) ?_ | refine A.sub64 rfl rfl rfl (by omega) ?_
    | refine A.call rfl a1 (WeakL.cons (Weak.refl _) (WeakL.cons weak_flatV (WeakL.refl _))) ?_ | refine A.call rfl a2 (WeakL.cons (Weak.refl _) (WeakL.cons weak_flatV (WeakL.refl _))) ?_
    | refine A.call rfl h1 (WeakL.cons (Weak.no (WeakL.refl _)) (WeakL.cons (Weak.agg (WeakL.cons (Weak.refl _) (WeakL.cons (Weak.refl _) (WeakL.cons (Weak.refl _) (WeakL.cons (Weak.refl _) (WeakL.cons (Weak.no (WeakL.refl _)) (WeakL.refl _))))))) (WeakL.refl _))) ?_
    | refine A.call rfl h2 (WeakL.cons (Weak.refl _) (WeakL.cons (Weak.agg (WeakL.cons (Weak.refl _) (WeakL.cons (Weak.refl _) (WeakL.cons (Weak.refl _) (WeakL.cons (Weak.refl _) (WeakL.cons (Weak.no (WeakL.refl _)) (WeakL.refl _))))))) (WeakL.refl _))) ?_
    | refine A.call rfl hk (WeakL.refl _) ?_ | refine A.index_r (j := 0) rfl rfl rfl rfl rfl rfl rfl rfl ?_
  all_goals exact Fin.ret1 rfl (Weak.refl _)

theorem val0_size : val0.size = 6 := rfl
theorem getG_size (n : Str) : ∀ l : List Mem, (getG n l).1.size ≤ sumSize Mem.size l + 6
  | [] => by rw [getG, val0_size]; omega
  | m :: l => by
    rw [getG]
    have h3 : m.size = m.name.length + 2 + m.v.size := rfl
    have := getG_size n l
    simp only [sumSize]
    split
    · dsimp only; omega
    · omega
theorem s_size (v : Val) : v.s.length ≤ v.size := by
  cases v; rw [Val.size, Val.s]; omega
theorem findG_size (l : List Tbl) (n : Need) : (findG l n).row.size ≤ tabSize l + 4 := by
  have h0 : noRow.size = 4 := rfl
  unfold findG
  split
  · show noRow.size ≤ _; omega
  · rename_i t ht
    split
    · show noRow.size ≤ _; omega
    · rename_i r hr
      have h1 := sumSize_mem (size := Tbl.size) (List.mem_of_find?_eq_some ht)
      have h2 := sumSize_mem (size := Row.size) (List.mem_of_find?_eq_some hr)
      have h3 : t.size = t.name.length + sumSize Row.size t.rows + 2 := rfl
      unfold gotOf tabSize
      split
      · show noRow.size ≤ _; omega
      · show r.size ≤ _; omega
theorem textV_size (s : Str) : (textV s).size = s.length + 6 := by rw [textV, Val.size, Val.sizeL_eq, Val.sizeM_eq, sumSize, sumSize]
theorem intV_size (n : Int) : (intV n).size = 6 := by rw [intV, Val.size, Val.sizeL_eq, Val.sizeM_eq, sumSize, sumSize]; rfl
theorem putRow_size (c : Cmd) (key : Str) (g : Got) : (putRow c key g).size ≤ g.row.size + key.length + 2 * c.size + 4 := by
  have ha := (args_of c).1
  have h1 : c.size = c.name.length + c.table.length + c.col.length + c.typ.length + sumSize Mem.size c.args + 5 := rfl
  have h2 : ∀ r : Row, r.size = r.key.length + r.typ.length + sumSize Mem.size r.cols + 4 := fun _ => rfl
  unfold putRow
  by_cases hg : g.is = true
  · rw [if_pos hg, h2, h2]
    dsimp only
    have := putCols_size c.args g.row.cols
    omega
  · rw [if_neg hg, h2, h2]
    dsimp only
    have := putCols_size c.args []
    simp only [sumSize] at this
    omega
theorem addG_size (l : List Tbl) (c : Cmd) (r : Row) (B : Nat) (h : r.size ≤ B) : tabSize (addG l c r).1 ≤ tabSize l + B + 2 * c.size + 20 ∧ (addG l c r).2.1.size ≤ 6 := by
  have h1 : c.size = c.name.length + c.table.length + c.col.length + c.typ.length + sumSize Mem.size c.args + 5 := rfl
  unfold addG
  dsimp only
  split
  · exact ⟨by dsimp only; omega, by dsimp only; rw [val0_size]; omega⟩
  · split
    · exact ⟨by dsimp only; omega, by dsimp only; rw [val0_size]; omega⟩
    · split
      · exact ⟨by dsimp only; omega, by dsimp only; rw [val0_size]; omega⟩
      · refine ⟨?_, by dsimp only; rw [intV_size]; omega⟩
        dsimp only
        have h2 := putG_size l c.table { r with cols := setG r.cols c.col (intV (wrap64 ((getG sBy c.args).1.n + (colG r c.col).n))) }
        have h3 := setG_size r.cols c.col (intV (wrap64 ((getG sBy c.args).1.n + (colG r c.col).n)))
        rw [intV_size] at h3
        have h4 : r.size = r.key.length + r.typ.length + sumSize Mem.size r.cols + 4 := rfl
        have h5 : ∀ m, Row.size { r with cols := m } = r.key.length + r.typ.length + sumSize Mem.size m + 4 := fun _ => rfl
        rw [h5] at h2
        omega
theorem cmdG_size (l : List Tbl) (c : Cmd) : tabSize (cmdG l c).1 ≤ 2 * tabSize l + 6 * c.size + 50 ∧ (cmdG l c).2.1.size ≤ c.size + 20 := by
  have hk := getG_size sKey c.args
  have hs := s_size (getG sKey c.args).1
  have ha := (args_of c).1
  have hfz := findG_size l ⟨c.table, (getG sKey c.args).1.s⟩
  have hpr := putRow_size c (getG sKey c.args).1.s (findG l ⟨c.table, (getG sKey c.args).1.s⟩)
  have hpg := putG_size l c.table (putRow c (getG sKey c.args).1.s (findG l ⟨c.table, (getG sKey c.args).1.s⟩))
  have hcg := cutG_size l c.table (getG sKey c.args).1.s
  have hag := addG_size l c (findG l ⟨c.table, (getG sKey c.args).1.s⟩).row _ hfz
  have h1 : c.size = c.name.length + c.table.length + c.col.length + c.typ.length + sumSize Mem.size c.args + 5 := rfl
  have h0 := val0_size
  have ht := textV_size (getG sKey c.args).1.s
  unfold cmdG
  repeat' split
  all_goals (constructor <;> first | omega | (dsimp only; omega))
theorem cmdG_kind (l : List Tbl) (c : Cmd) (h : (cmdG l c).2.2 = 0) : knownG c.name = true ∧ (c.name != sBurn) = true ∧ ((cmdG l c).2.1.kind != 0) = true := by
  unfold cmdG at h ⊢
  split at h
  · cases h
  · split at h
    · cases h
    · rename_i h1 h2
      refine ⟨by simpa using h1, by simpa using h2, ?_⟩
      rw [if_neg h1, if_neg h2]
      split at h
      · cases h
      · split at h
        · rename_i h3 h4
          dsimp only at h
          rw [h] at h4
          cases h4
        · rename_i h3 h4
          rw [if_neg h3, if_neg h4]
          split at h
          · rename_i h5
            rw [if_pos h5]; rfl
          · rename_i h5
            rw [if_neg h5]
            split at h
            · cases h
            · rename_i h6
              rw [if_neg h6]
              split at h
              · rename_i h7
                rw [if_pos h7]; rfl
              · rename_i h7
                rw [if_neg h7]
                unfold addG at h ⊢
                dsimp only at h ⊢
                split at h
                · cases h
                · rename_i h8
                  rw [if_neg h8]
                  split at h
                  · cases h
                  · rename_i h9
                    rw [if_neg h9]
                    split at h
                    · cases h
                    · rename_i h10
                      rw [if_neg h10]; rfl
end Go.Proofs.YtajddgpkflbnaaaDoor
