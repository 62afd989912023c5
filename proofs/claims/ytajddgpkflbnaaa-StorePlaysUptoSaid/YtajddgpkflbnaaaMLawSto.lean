/-
  The laws of the store: what it shows when awake; StoreReads.
-/
import Derived.Test.YtajddgpkflbnaaaMSto
namespace Go.Proofs.Ytajddgpkflbnaaa
open Go Go.Av
set_option maxRecDepth 100000
set_option maxHeartbeats 16000000
set_option linter.unusedVariables false
set_option linter.unusedSimpArgs false
attribute [local irreducible] HCode AOps PFn AFn Av.Step TStep

def aBat : Batch := ⟨[116], [[97], [98]]⟩
def nCmd : Cmd := ⟨[110, 111, 110, 101], [], [], [], []⟩
theorem fineN : Fine 1048576 [] := ⟨by decide, by simp, by simp⟩
theorem gots_closed {l : List Got} : (AV.slice (l.map Got.enc) .no).closed = true := by simp [AV.closed, Got.closedL]

theorem awake29 : PFn Try.prog 36 [] (.bool true) := by
  refine AFn.plain rfl rfl (AFn.enter [0] Try.func36 rfl rfl rfl rfl rfl (by decide) ?_)
  have h1 := newS [] fineN
  have h2 : AFn Try.prog 39 [.ptr 0 0, aBat.enc] (Sto [] []) (fun e σ => e = .ret (.slice ([gotNone, gotNone].map Got.enc) .no) ∧ σ = Sto [] [⟨aBat, c0⟩]) := getS [] [] aBat fineN (by decide) (by decide)
  have h3 : AFn Try.prog 38 [.ptr 0 0, nCmd.enc] (Sto [] [⟨aBat, c0⟩]) (fun e σ => e = .ret (.tup [val0.enc, .int .i64 1]) ∧ σ = Sto [] [⟨aBat, c0⟩, ⟨b0, nCmd⟩]) := doS [] [⟨aBat, c0⟩] nCmd fine0 (by decide) (by decide)
  have h4 := tablesS [] [⟨aBat, c0⟩, ⟨b0, nCmd⟩] fineN
  have h5 := logS [] [⟨aBat, c0⟩, ⟨b0, nCmd⟩] (by decide) (by decide) (by decide)
  repeat' first
    | refine HCode.seq ?_ | refine HCode.region rfl ?_ | refine HCode.region_draw Lay.mix rfl ?_ | refine HCode.block ?_ | refine HCode.scope ?_ | refine HCode.skip ?_ | refine HCode.label ?_ | refine HCode.exit ?_ | refine HCode.ret ?_
    | refine HCode.cond_true rfl ?_ | refine HCode.cond_false rfl ?_ | refine HCode.cond_yes rfl (by assumption) ?_ | refine HCode.cond_no rfl (by assumption) ?_ | (refine HCode.cond rfl ?_ ?_ <;> intro hc)
    | refine A.nil_seq ?_ | refine A.nil (fun _ => rfl) ?_ | refine A.dead rfl ?_ | refine A.yes rfl rfl ?_ | refine A.no rfl rfl ?_ | refine A.yes rfl (by assumption) ?_ | refine A.no rfl (by assumption) ?_ | (refine A.guard rfl ?_ ?_ <;> intro hc)
    | refine A.move rfl ?_ | refine A.assign rfl ?_ | refine A.load_b rfl rfl rfl rfl ?_ | refine A.load_r rfl rfl rfl ?_ | refine A.field_b rfl rfl rfl rfl rfl rfl ?_ | refine A.field_r rfl rfl rfl rfl rfl rfl ?_ | refine A.field rfl rfl rfl rfl rfl ?_
    | refine A.index_r rfl rfl rfl rfl rfl rfl (by assumption) rfl ?_ | refine A.len rfl rfl rfl (by first | rw [List.length_map] | rfl) ?_ | refine A.lens rfl rfl rfl rfl ?_
    | refine A.pick_true rfl rfl rfl ?_ | refine A.pick_false rfl rfl rfl ?_ | refine A.pick_true rfl (by assumption) rfl ?_ | refine A.pick_false rfl (by assumption) rfl ?_
    | refine A.box rfl rfl rfl ?_ | refine A.alloc rfl rfl rfl ?_ | refine A.store rfl rfl rfl rfl rfl ?_ | refine A.build rfl rfl rfl rfl ?_ | refine A.buildSlice rfl rfl rfl rfl rfl rfl rfl ?_
    | refine A.eqi rfl rfl ?_ | refine A.nei rfl rfl ?_ | refine A.lss rfl rfl ?_ | refine A.leq rfl rfl ?_ | refine A.gtr rfl rfl ?_ | refine A.geq rfl rfl ?_ | refine A.eqb rfl rfl rfl rfl ?_ | refine A.neb rfl rfl rfl rfl ?_ | refine A.eqs rfl rfl ?_ | refine A.nes rfl rfl ?_ | refine A.lts rfl rfl ?_ | refine A.gts rfl rfl ?_
    | refine A.not rfl ?_ | refine A.extract rfl rfl ?_ | refine A.add64 rfl rfl rfl (by omega) ?_ | refine A.sub64 rfl rfl rfl (by omega) ?_
    | refine A.callO rfl h1 (by simp [AV.closedL, Tbls.closed]) (Tbls.closed _) (WeakL.cons (Weak.no (WeakL.refl _)) (WeakL.refl _)) rfl rfl rfl rfl ?_ | refine A.peq rfl rfl rfl ?_
    | refine A.callS 0 rfl h2 rfl rfl (by simp [AV.closedL, Batch.closed]) (Tbls.closed _) (Tbls.closed _) (Entry.closedL _) (Entry.closedL _) gots_closed (WeakL.cons (Weak.agg (WeakL.cons (Weak.refl _) (WeakL.cons (Weak.no (WeakL.refl _)) (WeakL.refl _)))) (WeakL.refl _)) rfl rfl ?_
    | refine A.callS 0 rfl h3 rfl rfl (by simp [AV.closedL, Cmd.closed]) (Tbls.closed _) (Tbls.closed _) (Entry.closedL _) (Entry.closedL _) rfl (WeakL.cons (Weak.agg (WeakL.cons (Weak.refl _) (WeakL.cons (Weak.refl _) (WeakL.cons (Weak.refl _) (WeakL.cons (Weak.refl _) (WeakL.cons (Weak.no (WeakL.refl _)) (WeakL.refl _))))))) (WeakL.refl _)) rfl rfl ?_
    | refine A.callS 0 rfl h4 rfl rfl rfl (Tbls.closed _) (Tbls.closed _) (Entry.closedL _) (Entry.closedL _) (Tbls.closed _) (WeakL.refl _) rfl rfl ?_
    | refine A.callS 0 rfl h5 rfl rfl rfl (Tbls.closed _) (Tbls.closed _) (Entry.closedL _) (Entry.closedL _) (by simp only [AV.closed]; exact Entry.closedL _) (WeakL.refl _) rfl rfl ?_
    | refine A.index_r (j := 0) rfl rfl rfl rfl rfl rfl rfl rfl ?_
  all_goals exact Fin.ret1 rfl (Weak.refl _)

theorem got_cols (l : List Tbl) (n : Need) : sumSize Mem.size (findG l n).row.cols ≤ tabSize l + 4 := by
  have h1 := findG_size l n
  have h2 : (findG l n).row.size = (findG l n).row.key.length + (findG l n).row.typ.length + sumSize Mem.size (findG l n).row.cols + 4 := rfl
  omega
theorem weak_ask {b : Batch} {t1 t2 : Tk} : Weak (.slice [.agg [.bool false, .str [], .str [], .str [], .str [], .slice [] t1, .str b.table, .slice (b.keys.map AV.str) .no]] t2) (.slice ([(⟨false, c0, b⟩ : Ask)].map Ask.enc) .no) :=
  Weak.no (WeakL.cons (Weak.agg (WeakL.cons (Weak.refl _) (WeakL.cons (Weak.refl _) (WeakL.cons (Weak.refl _) (WeakL.cons (Weak.refl _) (WeakL.cons (Weak.refl _) (WeakL.cons (Weak.no (WeakL.refl _)) (WeakL.refl _)))))))) (WeakL.refl _))

theorem storeReads (l : List Tbl) (b : Batch) (h : tabSize l + b.size + 1 ≤ 1048576) : PFn Try.prog 9 [Tbls.enc l, b.enc] (.bool true) := by
  refine AFn.plain rfl (by simp [AV.closedL, Tbls.closed, Batch.closed]) (AFn.enter [4] Try.func9 rfl rfl rfl rfl rfl (by decide) ?_)
  have hbs : b.size = b.table.length + sumSize strSize b.keys + 2 := rfl
  have hbl := sumSize_length (size := strSize) (fun s => by unfold strSize; omega) b.keys
  have hF : Fine 1048576 l := (fine_of (Nat.le_refl (tabSize l))).le (by omega)
  have hl := light_of l _ (Nat.le_refl _) (by omega)
  have hL := light29 [⟨false, c0, b⟩] (by simp) (by simp; omega) (by simp [c0, sumSize])
  have hw := awake29
  have hnew := newS l hF
  have hg1 : AFn Try.prog 39 [.ptr 0 0, b.enc] (Sto l []) (fun e σ => e = .ret (.slice ((gots l b).map Got.enc) .no) ∧ σ = Sto l [⟨b, c0⟩]) := getS l [] b hF (by omega) (by simp)
  have hg2 : AFn Try.prog 39 [.ptr 0 0, b.enc] (Sto l [⟨b, c0⟩]) (fun e σ => e = .ret (.slice ((gots l b).map Got.enc) .no) ∧ σ = Sto l [⟨b, c0⟩, ⟨b, c0⟩]) := getS l [⟨b, c0⟩] b hF (by omega) (by simp)
  have hta := tablesS l [⟨b, c0⟩, ⟨b, c0⟩] hF
  have hlo := logS l [⟨b, c0⟩, ⟨b, c0⟩] (by simp) (by simp; omega) (by simp [c0])
  have hsg := sameGots (gots l b) (by rw [gots_length]; omega) (fun g hg => by
    obtain ⟨k, _, rfl⟩ := List.mem_map.1 hg
    have := got_cols l ⟨b.table, k⟩
    omega)
  have hst := same_of l _ (Nat.le_refl _) (by omega)
  have e0 : (((gots l b).length : Int) != (b.keys.length : Int)) = false := by simp [gots_length]
  have egl := gots_length l b
  cases d1 : lightT l <;> cases d2 : lightA [⟨false, c0, b⟩] <;> rw [d1] at hl <;> rw [d2] at hL
  rotate_right
  · repeat' first
      | refine A.box_r rfl rfl ?_ | refine A.field_r rfl rfl rfl rfl ?_
      | refine HCode.seq ?_ | refine HCode.region rfl ?_ | refine HCode.region_draw Lay.mix rfl ?_ | refine HCode.block ?_ | refine HCode.scope ?_ | refine HCode.skip ?_ | refine HCode.label ?_ | refine HCode.exit ?_ | refine HCode.ret ?_
      | refine HCode.cond_true rfl ?_ | refine HCode.cond_false rfl ?_ | refine HCode.cond_yes rfl (by assumption) ?_ | refine HCode.cond_no rfl (by assumption) ?_ | (refine HCode.cond rfl ?_ ?_ <;> intro hc)
      | refine A.nil_seq ?_ | refine A.nil (fun _ => rfl) ?_ | refine A.dead rfl ?_ | refine A.yes rfl rfl ?_ | refine A.no rfl rfl ?_ | refine A.yes rfl (by assumption) ?_ | refine A.no rfl (by assumption) ?_ | (refine A.guard rfl ?_ ?_ <;> intro hc)
      | refine A.move rfl ?_ | refine A.assign rfl ?_ | refine A.load_b rfl rfl rfl rfl ?_ | refine A.load_r rfl rfl rfl ?_ | refine A.field_b rfl rfl rfl rfl rfl rfl ?_ | refine A.field_r rfl rfl rfl rfl rfl rfl ?_ | refine A.field rfl rfl rfl rfl rfl ?_
      | refine A.index_r rfl rfl rfl rfl rfl rfl (by assumption) rfl ?_ | refine A.len rfl rfl rfl (by first | rw [List.length_map] | rfl) ?_ | refine A.lens rfl rfl rfl rfl ?_
      | refine A.pick_true rfl rfl rfl ?_ | refine A.pick_false rfl rfl rfl ?_ | refine A.pick_true rfl (by assumption) rfl ?_ | refine A.pick_false rfl (by assumption) rfl ?_
      | refine A.box rfl rfl rfl ?_ | refine A.alloc rfl rfl rfl ?_ | refine A.store rfl rfl rfl rfl rfl ?_ | refine A.build rfl rfl rfl rfl ?_ | refine A.buildSlice rfl rfl rfl rfl rfl rfl rfl ?_
      | refine A.eqi rfl rfl ?_ | refine A.nei rfl rfl ?_ | refine A.lss rfl rfl ?_ | refine A.leq rfl rfl ?_ | refine A.gtr rfl rfl ?_ | refine A.geq rfl rfl ?_ | refine A.eqb rfl rfl rfl rfl ?_ | refine A.neb rfl rfl rfl rfl ?_ | refine A.eqs rfl rfl ?_ | refine A.nes rfl rfl ?_ | refine A.lts rfl rfl ?_ | refine A.gts rfl rfl ?_
      | refine A.not rfl ?_ | refine A.extract rfl rfl ?_ | refine A.add64 rfl rfl rfl (by omega) ?_ | refine A.sub64 rfl rfl rfl (by omega) ?_
      | refine A.call rfl hl (WeakL.refl _) ?_ | refine A.call rfl hL (WeakL.cons weak_ask (WeakL.refl _)) ?_
      | refine A.callO rfl hnew (by simp [AV.closedL, Tbls.closed]) (Tbls.closed _) (WeakL.refl _) rfl rfl rfl rfl ?_ | refine A.peq rfl rfl rfl ?_
      | refine A.callS 0 rfl hg1 rfl rfl (by simp [AV.closedL, Batch.closed]) (Tbls.closed _) (Tbls.closed _) (Entry.closedL _) (Entry.closedL _) gots_closed (WeakL.refl _) rfl rfl ?_
      | refine A.callS 0 rfl hg2 rfl rfl (by simp [AV.closedL, Batch.closed]) (Tbls.closed _) (Tbls.closed _) (Entry.closedL _) (Entry.closedL _) gots_closed (WeakL.refl _) rfl rfl ?_
      | refine A.callS 0 rfl hta rfl rfl rfl (Tbls.closed _) (Tbls.closed _) (Entry.closedL _) (Entry.closedL _) (Tbls.closed _) (WeakL.refl _) rfl rfl ?_
      | refine A.callS 0 rfl hlo rfl rfl rfl (Tbls.closed _) (Tbls.closed _) (Entry.closedL _) (Entry.closedL _) (by simp only [AV.closed]; exact Entry.closedL _) (WeakL.refl _) rfl rfl ?_
      | refine A.call rfl hsg (WeakL.refl _) ?_ | refine A.call rfl hst (WeakL.refl _) ?_
    change HCode _ _ _ _ _ _ _
    refine HCode.loop (fun n s σ => ∃ k : Nat, n = b.keys.length - k ∧ k ≤ b.keys.length ∧ σ = Sto l [⟨b, c0⟩, ⟨b, c0⟩] ∧
      s = [(8, .int .i64 k), (6, .slice ((gots l b).map Got.enc) .no), (3, .rptr b.enc), (0, Tbls.enc l)])
      (s0 := [(8, .int .i64 (0 : Nat)), (6, .slice ((gots l b).map Got.enc) .no), (3, .rptr b.enc), (0, Tbls.enc l)]) ⟨rfl, rfl, rfl, rfl, trivial⟩ ⟨0, rfl, Nat.zero_le _, rfl, rfl⟩ ?_
    rintro n s σ ⟨k, rfl, hk, rfl, rfl⟩
    by_cases h1 : k < b.keys.length
    · have d3 : decide ((k : Int) < ((gots l b).length : Int)) = true := by simp [gots_length, h1]
      have x1 := map_get' (f := AV.str) h1
      have x2 : ((gots l b).map Got.enc)[k]? = some (findG l ⟨b.table, b.keys[k]⟩).enc := by
        have := map_get' (f := Got.enc) (l := gots l b) (k := k) (by rw [gots_length]; exact h1)
        rw [this, gots_get h1]
      have hfi := find l ⟨b.table, b.keys[k]⟩ (by have := hF.len; omega) (fun t ht => by have := hF.rows t ht; omega) hF.cols
      have hs1 := sameGot (findG l ⟨b.table, b.keys[k]⟩) (by have := got_cols l ⟨b.table, b.keys[k]⟩; omega)
      repeat' first
        | refine HCode.seq ?_ | refine HCode.region rfl ?_ | refine HCode.region_draw Lay.mix rfl ?_ | refine HCode.block ?_ | refine HCode.scope ?_ | refine HCode.skip ?_ | refine HCode.label ?_ | refine HCode.exit ?_ | refine HCode.ret ?_
        | refine HCode.cond_true rfl ?_ | refine HCode.cond_false rfl ?_ | refine HCode.cond_yes rfl (by assumption) ?_ | refine HCode.cond_no rfl (by assumption) ?_ | (refine HCode.cond rfl ?_ ?_ <;> intro hc)
        | refine A.nil_seq ?_ | refine A.nil (fun _ => rfl) ?_ | refine A.dead rfl ?_ | refine A.yes rfl rfl ?_ | refine A.no rfl rfl ?_ | refine A.yes rfl (by assumption) ?_ | refine A.no rfl (by assumption) ?_ | (refine A.guard rfl ?_ ?_ <;> intro hc)
        | refine A.move rfl ?_ | refine A.assign rfl ?_ | refine A.load_b rfl rfl rfl rfl ?_ | refine A.load_r rfl rfl rfl ?_ | refine A.field_b rfl rfl rfl rfl rfl rfl ?_ | refine A.field_r rfl rfl rfl rfl rfl rfl ?_ | refine A.field rfl rfl rfl rfl rfl ?_
        | refine A.index_r rfl rfl rfl rfl rfl rfl (by assumption) rfl ?_ | refine A.len rfl rfl rfl (by first | rw [List.length_map] | rfl) ?_ | refine A.lens rfl rfl rfl rfl ?_
        | refine A.pick_true rfl rfl rfl ?_ | refine A.pick_false rfl rfl rfl ?_ | refine A.pick_true rfl (by assumption) rfl ?_ | refine A.pick_false rfl (by assumption) rfl ?_
        | refine A.box rfl rfl rfl ?_ | refine A.alloc rfl rfl rfl ?_ | refine A.store rfl rfl rfl rfl rfl ?_ | refine A.build rfl rfl rfl rfl ?_ | refine A.buildSlice rfl rfl rfl rfl rfl rfl rfl ?_
        | refine A.eqi rfl rfl ?_ | refine A.nei rfl rfl ?_ | refine A.lss rfl rfl ?_ | refine A.leq rfl rfl ?_ | refine A.gtr rfl rfl ?_ | refine A.geq rfl rfl ?_ | refine A.eqb rfl rfl rfl rfl ?_ | refine A.neb rfl rfl rfl rfl ?_ | refine A.eqs rfl rfl ?_ | refine A.nes rfl rfl ?_ | refine A.lts rfl rfl ?_ | refine A.gts rfl rfl ?_
        | refine A.not rfl ?_ | refine A.extract rfl rfl ?_ | refine A.add64 rfl rfl rfl (by omega) ?_ | refine A.sub64 rfl rfl rfl (by omega) ?_
        | refine A.call rfl hfi (WeakL.refl _) ?_ | refine A.call rfl hs1 (WeakL.refl _) ?_
      exact ⟨b.keys.length - (k + 1), by omega, [(8, .int .i64 ((k + 1 : Nat) : Int)), (6, .slice ((gots l b).map Got.enc) .no), (3, .rptr b.enc), (0, Tbls.enc l)], ⟨rfl, rfl, rfl, rfl, trivial⟩,
        by simp [belowS, AV.low, Got.lowL, Tbls.enc, Tbl.lowL, AV.low_of_closed _ _ _ (Batch.closed b)], by simp [belowB, belowT, Tok.low, Ob.low, AV.low, AV.lowL, Entry.lowL, Tbls.enc, Tbl.lowL, AV.low_of_closed _ _ _ (Entry.closed _)], k + 1, rfl, by omega, rfl, rfl⟩
    · have d3 : decide ((k : Int) < ((gots l b).length : Int)) = false := by simp [gots_length]; omega
      repeat' first
        | refine HCode.seq ?_ | refine HCode.region rfl ?_ | refine HCode.region_draw Lay.mix rfl ?_ | refine HCode.block ?_ | refine HCode.scope ?_ | refine HCode.skip ?_ | refine HCode.label ?_ | refine HCode.exit ?_ | refine HCode.ret ?_
        | refine HCode.cond_true rfl ?_ | refine HCode.cond_false rfl ?_ | refine HCode.cond_yes rfl (by assumption) ?_ | refine HCode.cond_no rfl (by assumption) ?_ | (refine HCode.cond rfl ?_ ?_ <;> intro hc)
        | refine A.nil_seq ?_ | refine A.nil (fun _ => rfl) ?_ | refine A.dead rfl ?_ | refine A.yes rfl rfl ?_ | refine A.no rfl rfl ?_ | refine A.yes rfl (by assumption) ?_ | refine A.no rfl (by assumption) ?_ | (refine A.guard rfl ?_ ?_ <;> intro hc)
        | refine A.move rfl ?_ | refine A.assign rfl ?_ | refine A.load_b rfl rfl rfl rfl ?_ | refine A.load_r rfl rfl rfl ?_ | refine A.field_b rfl rfl rfl rfl rfl rfl ?_ | refine A.field_r rfl rfl rfl rfl rfl rfl ?_ | refine A.field rfl rfl rfl rfl rfl ?_
        | refine A.index_r rfl rfl rfl rfl rfl rfl (by assumption) rfl ?_ | refine A.len rfl rfl rfl (by first | rw [List.length_map] | rfl) ?_ | refine A.lens rfl rfl rfl rfl ?_
        | refine A.pick_true rfl rfl rfl ?_ | refine A.pick_false rfl rfl rfl ?_ | refine A.pick_true rfl (by assumption) rfl ?_ | refine A.pick_false rfl (by assumption) rfl ?_
        | refine A.box rfl rfl rfl ?_ | refine A.alloc rfl rfl rfl ?_ | refine A.store rfl rfl rfl rfl rfl ?_ | refine A.build rfl rfl rfl rfl ?_ | refine A.buildSlice rfl rfl rfl rfl rfl rfl rfl ?_
        | refine A.eqi rfl rfl ?_ | refine A.nei rfl rfl ?_ | refine A.lss rfl rfl ?_ | refine A.leq rfl rfl ?_ | refine A.gtr rfl rfl ?_ | refine A.geq rfl rfl ?_ | refine A.eqb rfl rfl rfl rfl ?_ | refine A.neb rfl rfl rfl rfl ?_ | refine A.eqs rfl rfl ?_ | refine A.nes rfl rfl ?_ | refine A.lts rfl rfl ?_ | refine A.gts rfl rfl ?_
        | refine A.not rfl ?_ | refine A.extract rfl rfl ?_ | refine A.add64 rfl rfl rfl (by omega) ?_ | refine A.sub64 rfl rfl rfl (by omega) ?_
        | refine A.call rfl hw (WeakL.refl _) ?_
      exact Fin.ret1 rfl (Weak.refl _)
  all_goals repeat' first
              | refine A.box_r rfl rfl ?_
              | refine HCode.seq ?_ | refine HCode.region rfl ?_ | refine HCode.region_draw Lay.mix rfl ?_ | refine HCode.block ?_ | refine HCode.scope ?_ | refine HCode.skip ?_ | refine HCode.label ?_ | refine HCode.exit ?_ | refine HCode.ret ?_
              | refine HCode.cond_true rfl ?_ | refine HCode.cond_false rfl ?_ | refine HCode.cond_yes rfl (by assumption) ?_ | refine HCode.cond_no rfl (by assumption) ?_ | (refine HCode.cond rfl ?_ ?_ <;> intro hc)
              | refine A.nil_seq ?_ | refine A.nil (fun _ => rfl) ?_ | refine A.dead rfl ?_ | refine A.yes rfl rfl ?_ | refine A.no rfl rfl ?_ | refine A.yes rfl (by assumption) ?_ | refine A.no rfl (by assumption) ?_ | (refine A.guard rfl ?_ ?_ <;> intro hc)
              | refine A.move rfl ?_ | refine A.assign rfl ?_ | refine A.load_b rfl rfl rfl rfl ?_ | refine A.load_r rfl rfl rfl ?_ | refine A.field_b rfl rfl rfl rfl rfl rfl ?_ | refine A.field_r rfl rfl rfl rfl rfl rfl ?_ | refine A.field rfl rfl rfl rfl rfl ?_
              | refine A.index_r rfl rfl rfl rfl rfl rfl (by assumption) rfl ?_ | refine A.len rfl rfl rfl (by first | rw [List.length_map] | rfl) ?_ | refine A.lens rfl rfl rfl rfl ?_
              | refine A.pick_true rfl rfl rfl ?_ | refine A.pick_false rfl rfl rfl ?_ | refine A.pick_true rfl (by assumption) rfl ?_ | refine A.pick_false rfl (by assumption) rfl ?_
              | refine A.box rfl rfl rfl ?_ | refine A.alloc rfl rfl rfl ?_ | refine A.store rfl rfl rfl rfl rfl ?_ | refine A.build rfl rfl rfl rfl ?_ | refine A.buildSlice rfl rfl rfl rfl rfl rfl rfl ?_
              | refine A.eqi rfl rfl ?_ | refine A.nei rfl rfl ?_ | refine A.lss rfl rfl ?_ | refine A.leq rfl rfl ?_ | refine A.gtr rfl rfl ?_ | refine A.geq rfl rfl ?_ | refine A.eqb rfl rfl rfl rfl ?_ | refine A.neb rfl rfl rfl rfl ?_ | refine A.eqs rfl rfl ?_ | refine A.nes rfl rfl ?_ | refine A.lts rfl rfl ?_ | refine A.gts rfl rfl ?_
              | refine A.not rfl ?_ | refine A.extract rfl rfl ?_ | refine A.add64 rfl rfl rfl (by omega) ?_ | refine A.sub64 rfl rfl rfl (by omega) ?_
              | refine A.call rfl hl (WeakL.refl _) ?_ | refine A.call rfl hL (WeakL.cons weak_ask (WeakL.refl _)) ?_ | refine A.call rfl hw (WeakL.refl _) ?_
  all_goals exact Fin.ret1 rfl (Weak.refl _)
end Go.Proofs.Ytajddgpkflbnaaa
