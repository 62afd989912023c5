/-
  The laws of tables: what they show when awake; TablePuts.
-/
import Derived.Test.YtajddgpkflbnaaaDoorMRefP
import Derived.Test.YtajddgpkflbnaaaDoorMSize
import Derived.Test.YtajddgpkflbnaaaDoorMMay2
namespace Go.Proofs.YtajddgpkflbnaaaDoor
open Go Go.Av
set_option maxRecDepth 100000
set_option maxHeartbeats 16000000
set_option linter.unusedVariables false
set_option linter.unusedSimpArgs false
attribute [local irreducible] HCode AOps PFn AFn Av.Step TStep

theorem fine_le {B B' : Nat} {l : List Tbl} (hf : Fine B l) (h : B ≤ B') : Fine B' l := ⟨Nat.le_trans hf.len h, fun t ht => Nat.le_trans (hf.rows t ht) h, fun t ht r hr => Nat.le_trans (hf.cols t ht r hr) h⟩
def kRow : Row := ⟨[107], [84], [], false⟩
def kTbl : List Tbl := [⟨[116], [kRow]⟩]
theorem val_pos (v : Val) : 0 < v.size := by cases v; rw [Val.size]; omega
theorem noFns : ValFns (fun _ => true) (fun _ => true) 0 := ⟨fun v h => by have := val_pos v; omega, fun v h => by have := val_pos v; omega⟩
theorem kIn : TblsIn 0 kTbl := by
  refine ⟨by decide, ?_, ?_, ?_, ?_⟩ <;> simp [kTbl, kRow]
theorem fine_k : Fine 1048576 kTbl := by refine ⟨by decide, ?_, ?_⟩ <;> simp [kTbl, kRow]
theorem fine_0 : Fine 1048576 [] := by refine ⟨by decide, ?_, ?_⟩ <;> simp
theorem kMay : tblsOk (fun _ => true) (fun _ => true) kTbl [] = true := by decide
theorem kPut : putG [] [116] kRow = kTbl := rfl
theorem kCut : (cutG kTbl [116] [107]).length = 1 := rfl

theorem weak_row {key typ : Str} {t : Tk} {b : Bool} : Weak (.agg [.str key, .str typ, .slice [] t, .bool b]) (Row.mk key typ [] b).enc := Weak.agg (WeakL.cons (Weak.refl _) (WeakL.cons (Weak.refl _) (WeakL.cons (Weak.no (WeakL.refl _)) (WeakL.refl _))))
theorem weak_nil : Weak (.slice [] .nil) (Tbls.enc []) := Weak.no (WeakL.refl _)
theorem awake27 : PFn Tryd.prog 21 [] (.bool true) := by
  refine AFn.plain rfl rfl (AFn.enter [0] Tryd.func21 rfl rfl rfl rfl rfl (by decide) ?_)
  have h1 := find [] ⟨[116], [107]⟩ (by decide) (by simp) (by simp)
  have h2 := put [] [116] kRow fine_0.len fine_0.rows fine_0.cols (by decide)
  rw [kPut] at h2
  have h3 := find kTbl ⟨[116], [107]⟩ (by decide) (by simp [kTbl, kRow]) (by simp [kTbl, kRow])
  have h4 := tableMay noFns (by decide) kTbl kIn
  rw [kMay] at h4
  have h5 := cut kTbl [116] [107] fine_k.len fine_k.rows fine_k.cols
  have e1 : findG [] ⟨[116], [107]⟩ = gotNone := rfl
  have e3 : findG kTbl ⟨[116], [107]⟩ = ⟨kRow, true, 0⟩ := rfl
  rw [e1] at h1
  rw [e3] at h3
  repeat' first
    | refine HCode.seq ?_ | refine HCode.region rfl ?_ | refine HCode.region_draw Lay.mix rfl ?_ | refine HCode.block ?_ | refine HCode.scope ?_ | refine HCode.skip ?_ | refine HCode.label ?_ | refine HCode.exit ?_ | refine HCode.ret ?_
    | refine HCode.cond_true rfl ?_ | refine HCode.cond_false rfl ?_ | refine HCode.cond_yes rfl (by assumption) ?_ | refine HCode.cond_no rfl (by assumption) ?_ | (refine HCode.cond rfl ?_ ?_ <;> intro hc)
    | refine A.nil_seq ?_ | refine A.nil (fun _ => rfl) ?_ | refine A.dead rfl ?_ | refine A.yes rfl rfl ?_ | refine A.no rfl rfl ?_ | refine A.yes rfl (by assumption) ?_ | refine A.no rfl (by assumption) ?_ | (refine A.guard rfl ?_ ?_ <;> intro hc)
    | refine A.move rfl ?_ | refine A.assign rfl ?_ | refine A.load_b rfl rfl rfl rfl ?_ | refine A.load_r rfl rfl rfl ?_ | refine A.field_b rfl rfl rfl rfl rfl rfl ?_ | refine A.field_r rfl rfl rfl rfl rfl rfl ?_ | refine A.field rfl rfl rfl rfl rfl ?_
    | refine A.index_r rfl rfl rfl rfl rfl rfl (by assumption) rfl ?_ | refine A.len rfl rfl rfl (by first | rw [List.length_map] | rfl) ?_ | refine A.lens rfl rfl rfl rfl ?_
    | refine A.pick_true rfl rfl rfl ?_ | refine A.pick_false rfl rfl rfl ?_ | refine A.pick_true rfl (by assumption) rfl ?_ | refine A.pick_false rfl (by assumption) rfl ?_
    | refine A.box rfl rfl rfl ?_ | refine A.alloc rfl rfl rfl ?_ | refine A.store rfl rfl rfl rfl rfl ?_ | refine A.build rfl rfl rfl rfl ?_ | refine A.buildSlice rfl rfl rfl rfl rfl rfl rfl ?_
    | refine A.eqi rfl rfl ?_ | refine A.nei rfl rfl ?_ | refine A.lss rfl rfl ?_ | refine A.leq rfl rfl ?_ | refine A.gtr rfl rfl ?_ | refine A.geq rfl rfl ?_ | refine A.eqb rfl rfl rfl rfl ?_ | refine A.neb rfl rfl rfl rfl ?_ | refine A.eqs rfl rfl ?_ | refine A.nes rfl rfl ?_ | refine A.lts rfl rfl ?_ | refine A.gts rfl rfl ?_
    | refine A.not rfl ?_ | refine A.extract rfl rfl ?_ | refine A.add64 rfl rfl rfl (by omega) ?_ | refine A.sub64 rfl rfl rfl (by omega) ?_
    | refine A.call rfl h1 (WeakL.cons weak_nil (WeakL.refl _)) ?_ | refine A.call rfl h2 (WeakL.cons weak_nil (WeakL.cons (Weak.refl _) (WeakL.cons weak_row (WeakL.refl _)))) ?_ | refine A.call rfl h3 (WeakL.refl _) ?_ | refine A.call rfl h4 (WeakL.refl _) ?_ | refine A.call rfl h5 (WeakL.refl _) ?_
  all_goals exact Fin.ret1 rfl (Weak.refl _)

def wI (n : Int) : Int := IntKind.i64.wrap n
theorem tablePuts (l : List Tbl) (name : Str) (r : Row) (h : tabSize l + 1 + (name.length + 1) + r.size ≤ 1048576) : PFn Tryd.prog 5 [Tbls.enc l, .str name, r.enc] (.bool true) := by
  refine AFn.plain rfl (by simp [AV.closedL, Tbls.closed, Row.closed, AV.closed]) (AFn.enter [6] Tryd.func5 rfl rfl rfl rfl rfl (by decide) ?_)
  have hrs : r.size = r.key.length + r.typ.length + sumSize Mem.size r.cols + 4 := rfl
  have hcl := sumSize_length Mem.size_pos r.cols
  have hF : Fine 1048576 l := fine_le (fine_of (Nat.le_refl (tabSize l))) (by omega)
  have hL := light_of l _ (Nat.le_refl _) (by omega)
  have hR := lightRow r (by omega)
  have hw := awake27
  have hk := keep_of l _ (Nat.le_refl _) (by omega)
  have h1 := put l name r hF.len hF.rows hF.cols (by omega)
  have h2 := cut l name r.key hF.len hF.rows hF.cols
  have h3 := rPut l name r hF.len hF.rows
  have h4 := rCut l name r.key hF.len hF.rows
  have p1 := putG_size l name r
  have p2 := cutG_size l name r.key
  have s1 := same_of (putG l name r) _ (Nat.le_refl _) (by omega)
  have s2 := same_of (cutG l name r.key) _ (Nat.le_refl _) (by omega)
  have s3 := same_of l _ (Nat.le_refl _) (by omega)
  cases d1 : lightT l <;> rw [d1] at hL
  · repeat' first
      | refine A.box_r rfl rfl ?_
      | refine HCode.seq ?_ | refine HCode.region rfl ?_ | refine HCode.region_draw Lay.mix rfl ?_ | refine HCode.block ?_ | refine HCode.scope ?_ | refine HCode.skip ?_ | refine HCode.label ?_ | refine HCode.exit ?_ | refine HCode.ret ?_
      | refine HCode.cond_true rfl ?_ | refine HCode.cond_false rfl ?_ | refine HCode.cond_yes rfl (by assumption) ?_ | refine HCode.cond_no rfl (by assumption) ?_ | (refine HCode.cond rfl ?_ ?_ <;> intro hc)
      | refine A.nil_seq ?_ | refine A.nil (fun _ => rfl) ?_ | refine A.dead rfl ?_ | refine A.yes rfl rfl ?_ | refine A.no rfl rfl ?_ | refine A.yes rfl (by assumption) ?_ | refine A.no rfl (by assumption) ?_ | (refine A.guard rfl ?_ ?_ <;> intro hc)
      | refine A.move rfl ?_ | refine A.assign rfl ?_ | refine A.load_b rfl rfl rfl rfl ?_ | refine A.load_r rfl rfl rfl ?_ | refine A.field_b rfl rfl rfl rfl rfl rfl ?_ | refine A.field_r rfl rfl rfl rfl rfl rfl ?_ | refine A.field rfl rfl rfl rfl rfl ?_
      | refine A.index_r rfl rfl rfl rfl rfl rfl (by assumption) rfl ?_ | refine A.len rfl rfl rfl (by first | rw [List.length_map] | rfl) ?_ | refine A.lens rfl rfl rfl rfl ?_
      | refine A.pick_true rfl rfl rfl ?_ | refine A.pick_false rfl rfl rfl ?_ | refine A.pick_true rfl (by assumption) rfl ?_ | refine A.pick_false rfl (by assumption) rfl ?_
      | refine A.box rfl rfl rfl ?_ | refine A.alloc rfl rfl rfl ?_ | refine A.store rfl rfl rfl rfl rfl ?_ | refine A.build rfl rfl rfl rfl ?_ | refine A.buildSlice rfl rfl rfl rfl rfl rfl rfl ?_
      | refine A.eqi rfl rfl ?_ | refine A.nei rfl rfl ?_ | refine A.lss rfl rfl ?_ | refine A.leq rfl rfl ?_ | refine A.gtr rfl rfl ?_ | refine A.geq rfl rfl ?_ | refine A.eqb rfl rfl rfl rfl ?_ | refine A.neb rfl rfl rfl rfl ?_ | refine A.eqs rfl rfl ?_ | refine A.nes rfl rfl ?_ | refine A.lts rfl rfl ?_ | refine A.gts rfl rfl ?_
      | refine A.not rfl ?_ | refine A.extract rfl rfl ?_ | refine A.add64 rfl rfl rfl (by omega) ?_ | refine A.sub64 rfl rfl rfl (by omega) ?_
      | refine A.call rfl hL (WeakL.refl _) ?_ | refine A.call rfl hw (WeakL.refl _) ?_
    exact Fin.ret1 rfl (Weak.refl _)
  · by_cases d2 : (2000 : Int) < wI ((name.length : Int) + lightRowI r)
    · have d3 : decide ((2000 : Int) < IntKind.i64.wrap ((name.length : Int) + lightRowI r)) = true := by simpa [wI] using d2
      repeat' first
        | refine A.box_r rfl rfl ?_
        | refine HCode.seq ?_ | refine HCode.region rfl ?_ | refine HCode.region_draw Lay.mix rfl ?_ | refine HCode.block ?_ | refine HCode.scope ?_ | refine HCode.skip ?_ | refine HCode.label ?_ | refine HCode.exit ?_ | refine HCode.ret ?_
        | refine HCode.cond_true rfl ?_ | refine HCode.cond_false rfl ?_ | refine HCode.cond_yes rfl (by assumption) ?_ | refine HCode.cond_no rfl (by assumption) ?_ | (refine HCode.cond rfl ?_ ?_ <;> intro hc)
        | refine A.nil_seq ?_ | refine A.nil (fun _ => rfl) ?_ | refine A.dead rfl ?_ | refine A.yes rfl rfl ?_ | refine A.no rfl rfl ?_ | refine A.yes rfl (by assumption) ?_ | refine A.no rfl (by assumption) ?_ | (refine A.guard rfl ?_ ?_ <;> intro hc)
        | refine A.move rfl ?_ | refine A.assign rfl ?_ | refine A.load_b rfl rfl rfl rfl ?_ | refine A.load_r rfl rfl rfl ?_ | refine A.field_b rfl rfl rfl rfl rfl rfl ?_ | refine A.field_r rfl rfl rfl rfl rfl rfl ?_ | refine A.field rfl rfl rfl rfl rfl ?_
        | refine A.index_r rfl rfl rfl rfl rfl rfl (by assumption) rfl ?_ | refine A.len rfl rfl rfl (by first | rw [List.length_map] | rfl) ?_ | refine A.lens rfl rfl rfl rfl ?_
        | refine A.pick_true rfl rfl rfl ?_ | refine A.pick_false rfl rfl rfl ?_ | refine A.pick_true rfl (by assumption) rfl ?_ | refine A.pick_false rfl (by assumption) rfl ?_
        | refine A.box rfl rfl rfl ?_ | refine A.alloc rfl rfl rfl ?_ | refine A.store rfl rfl rfl rfl rfl ?_ | refine A.build rfl rfl rfl rfl ?_ | refine A.buildSlice rfl rfl rfl rfl rfl rfl rfl ?_
        | refine A.eqi rfl rfl ?_ | refine A.nei rfl rfl ?_ | refine A.lss rfl rfl ?_ | refine A.leq rfl rfl ?_ | refine A.gtr rfl rfl ?_ | refine A.geq rfl rfl ?_ | refine A.eqb rfl rfl rfl rfl ?_ | refine A.neb rfl rfl rfl rfl ?_ | refine A.eqs rfl rfl ?_ | refine A.nes rfl rfl ?_ | refine A.lts rfl rfl ?_ | refine A.gts rfl rfl ?_
        | refine A.not rfl ?_ | refine A.extract rfl rfl ?_ | refine A.add64 rfl rfl rfl (by omega) ?_ | refine A.sub64 rfl rfl rfl (by omega) ?_
        | refine A.call rfl hL (WeakL.refl _) ?_ | refine A.call rfl hR (WeakL.refl _) ?_ | refine A.add rfl rfl ?_ | refine A.call rfl hw (WeakL.refl _) ?_
      exact Fin.ret1 rfl (Weak.refl _)
    · have d3 : decide ((2000 : Int) < IntKind.i64.wrap ((name.length : Int) + lightRowI r)) = false := by simpa [wI] using d2
      repeat' first
        | refine A.box_r rfl rfl ?_
        | refine HCode.seq ?_ | refine HCode.region rfl ?_ | refine HCode.region_draw Lay.mix rfl ?_ | refine HCode.block ?_ | refine HCode.scope ?_ | refine HCode.skip ?_ | refine HCode.label ?_ | refine HCode.exit ?_ | refine HCode.ret ?_
        | refine HCode.cond_true rfl ?_ | refine HCode.cond_false rfl ?_ | refine HCode.cond_yes rfl (by assumption) ?_ | refine HCode.cond_no rfl (by assumption) ?_ | (refine HCode.cond rfl ?_ ?_ <;> intro hc)
        | refine A.nil_seq ?_ | refine A.nil (fun _ => rfl) ?_ | refine A.dead rfl ?_ | refine A.yes rfl rfl ?_ | refine A.no rfl rfl ?_ | refine A.yes rfl (by assumption) ?_ | refine A.no rfl (by assumption) ?_ | (refine A.guard rfl ?_ ?_ <;> intro hc)
        | refine A.move rfl ?_ | refine A.assign rfl ?_ | refine A.load_b rfl rfl rfl rfl ?_ | refine A.load_r rfl rfl rfl ?_ | refine A.field_b rfl rfl rfl rfl rfl rfl ?_ | refine A.field_r rfl rfl rfl rfl rfl rfl ?_ | refine A.field rfl rfl rfl rfl rfl ?_
        | refine A.index_r rfl rfl rfl rfl rfl rfl (by assumption) rfl ?_ | refine A.len rfl rfl rfl (by first | rw [List.length_map] | rfl) ?_ | refine A.lens rfl rfl rfl rfl ?_
        | refine A.pick_true rfl rfl rfl ?_ | refine A.pick_false rfl rfl rfl ?_ | refine A.pick_true rfl (by assumption) rfl ?_ | refine A.pick_false rfl (by assumption) rfl ?_
        | refine A.box rfl rfl rfl ?_ | refine A.alloc rfl rfl rfl ?_ | refine A.store rfl rfl rfl rfl rfl ?_ | refine A.build rfl rfl rfl rfl ?_ | refine A.buildSlice rfl rfl rfl rfl rfl rfl rfl ?_
        | refine A.eqi rfl rfl ?_ | refine A.nei rfl rfl ?_ | refine A.lss rfl rfl ?_ | refine A.leq rfl rfl ?_ | refine A.gtr rfl rfl ?_ | refine A.geq rfl rfl ?_ | refine A.eqb rfl rfl rfl rfl ?_ | refine A.neb rfl rfl rfl rfl ?_ | refine A.eqs rfl rfl ?_ | refine A.nes rfl rfl ?_ | refine A.lts rfl rfl ?_ | refine A.gts rfl rfl ?_
        | refine A.not rfl ?_ | refine A.extract rfl rfl ?_ | refine A.add64 rfl rfl rfl (by omega) ?_ | refine A.sub64 rfl rfl rfl (by omega) ?_
        | refine A.call rfl hL (WeakL.refl _) ?_ | refine A.call rfl hR (WeakL.refl _) ?_ | refine A.call rfl hk (WeakL.refl _) ?_ | refine A.call rfl h1 (WeakL.refl _) ?_ | refine A.call rfl h2 (WeakL.refl _) ?_ | refine A.call rfl h3 (WeakL.refl _) ?_ | refine A.call rfl h4 (WeakL.refl _) ?_
        | refine A.call rfl s1 (WeakL.refl _) ?_ | refine A.call rfl s2 (WeakL.refl _) ?_ | refine A.call rfl s3 (WeakL.refl _) ?_ | refine A.call rfl hw (WeakL.refl _) ?_ | refine A.add rfl rfl ?_
      exact Fin.ret1 rfl (Weak.refl _)
end Go.Proofs.YtajddgpkflbnaaaDoor
