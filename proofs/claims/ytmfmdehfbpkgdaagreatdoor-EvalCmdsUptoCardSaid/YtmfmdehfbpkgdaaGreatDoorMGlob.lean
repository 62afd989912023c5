/-
  What the rows' listed variables give: the tables and errors of Go's library, as frozen data.
-/
import Derived.Test.YtmfmdehfbpkgdaaGreatDoorCards
import Derived.Test.YtmfmdehfbpkgdaaGreatDoorTie
import Derived.Test.YtmfmdehfbpkgdaaGreatDoorTable
import Derived.Test.YtmfmdehfbpkgdaaGreatDoorAvTab
import Derived.Test.YtmfmdehfbpkgdaaGreatDoorShelf
import Derived.WalkKit
import Derived.ProofKit
import Derived.OpenShut
import Derived.JoinedCond
import Derived.Handed
import Derived.MakeChecks
import Derived.Lay
import Derived.Lib.LaidU8T
import Derived.Stop.LaidErr
import Derived.Stop.Joined
import Derived.Deep.DeepHandedRow
import Derived.SevenTiedAt
namespace Go.Proofs.YtmfmdehfbpkgdaaGreatDoor
open Go Go.Av Go.ChangeShapes Go.WideShapes Go.ChangeAt Go.RowKit
set_option linter.unusedVariables false
set_option maxRecDepth 100000

/-- What all rows of this seat list. -/
def seatLaid : List (String × DataW Unit) := Rows.evalCmdsRow.laid
theorem u8_extra : Go.Proofs.U8Extra Tryz.prog Tryz.lays196_ren := ⟨by kernel_rfl, by kernel_rfl, by kernel_rfl, by kernel_rfl, by kernel_rfl, by kernel_rfl, by kernel_rfl⟩
theorem first_is : Rows.laid_unicode_utf8_first = Lib.firstData := by kernel_rfl
theorem acc_is : (Rows.laid_unicode_utf8_acceptRanges : DataW Unit) = Lib.acceptData := by kernel_rfl
theorem pow_is : (Rows.laid_internal_strconv_uint64pow10 : DataW Unit) = Lib.tabData .u64 Lib.pow10Tab := by kernel_rfl
def esName : String := match (Rows.laid_strconv_ErrSyntax : DataW Unit) with
  | .iface t _ => t
  | _ => ""
theorem glob_ok {W : World} (hL : laidMetH Tryz.prog seatLaid W) : GlobOk (fun b _ => b < W.heap.size) W := by
  rw [MakeChecks.laidMetH_plain _ _ _ (by kernel_rfl)] at hL
  have r3 := Lib.laidMet.reads hL (List.mem_of_getElem? (i := 6) (a := (_, Rows.laid_unicode_utf8_first)) rfl)
  have r4 := Lib.laidMet.reads hL (List.mem_of_getElem? (i := 3) (a := (_, Rows.laid_unicode_utf8_acceptRanges)) rfl)
  have r5 := Lib.laidMet.reads hL (List.mem_of_getElem? (i := 2) (a := (_, Rows.laid_internal_strconv_uint64pow10)) rfl)
  rw [first_is] at r3
  rw [acc_is] at r4
  rw [pow_is] at r5
  have hT := Go.Proofs.utf8Tabs_of_readsT (Go.Proofs.U8Types.of196 Tryz.lays196) u8_extra r3 r4
  have hP : ∀ (i : Nat) (z : Int), Lib.pow10Tab[i]? = some z → W.cell? ⟨2, i, none⟩ = some (.int .u64 z) := by
    intro i z hz
    obtain ⟨g, t, cs, fuel, p, hg, hty, hvar, hd⟩ := r5
    obtain rfl := Option.some.inj ((show Tryz.prog.globalNamed _ = some 2 by kernel_rfl).symm.trans hg)
    obtain rfl := Option.some.inj ((show (Tryz.prog.globals[2]?).map (·.type) = some 298 by kernel_rfl).symm.trans hty)
    have hcs := Lib.cells_of_tab Tryz.underlying298 Tryz.underlying278 (by kernel_rfl) (by kernel_rfl) hd
    rw [World.var?_cell hg hvar i, ← Array.getElem?_toList, hcs, List.getElem?_map, hz]
    rfl
  have hE : ∀ (n : String) (text : List UInt8) (r : List (String × DataW Unit)) (g : Nat), laidMet Tryz.prog ((n, .iface esName (.ptr (.agg [.lit (.string text)]))) :: r) W → Tryz.prog.globalNamed n = some g → (Tryz.prog.globals[g]?).map (·.type) = some 310 →
      ∃ u, W.cell? ⟨g, 0, none⟩ = some (.iface 329 u) := by
    intro n text r g h hg ht
    obtain ⟨a0, s0, hv0, _⟩ := laid_sentinel h hg ht Tryz.underlying310 (fun u hu => typeName_ptr_named (nm := "errors.errorString") (tp := 329) (by kernel_rfl) (by kernel_rfl) (by decide) u (hu.trans (by kernel_rfl)))
      Tryz.underlying329 Tryz.underlying331 rfl rfl Tryz.underlying9 (by kernel_rfl) (by kernel_rfl)
    refine ⟨_, (World.var?_cell hg hv0 0).trans rfl⟩
  have hS := hE _ _ _ 5 (hL.tail.tail.tail.tail.tail) (by kernel_rfl) (by kernel_rfl)
  have hR := hE _ _ _ 6 (hL.tail.tail.tail.tail) (by kernel_rfl) (by kernel_rfl)
  have hN : (2 < W.heap.size) ∧ W.cell? ⟨2, 20, none⟩ = none := by
    obtain ⟨g, t, cs, fuel, p, hg, hty, hvar, hd⟩ := r5
    obtain rfl := Option.some.inj ((show Tryz.prog.globalNamed _ = some 2 by kernel_rfl).symm.trans hg)
    obtain rfl := Option.some.inj ((show (Tryz.prog.globals[2]?).map (·.type) = some 298 by kernel_rfl).symm.trans hty)
    have hcs := Lib.cells_of_tab Tryz.underlying298 Tryz.underlying278 (by kernel_rfl) (by kernel_rfl) hd
    have h0 := World.var?_cell hg hvar 0
    constructor
    · rw [← Array.getElem?_toList, hcs, List.getElem?_map, show Lib.pow10Tab[0]? = some 1 by decide] at h0
      unfold World.cell? at h0
      rcases Nat.lt_or_ge 2 W.heap.size with h | h
      · exact h
      · rw [Array.getElem?_eq_none (by omega)] at h0; cases h0
    · rw [World.var?_cell hg hvar 20, ← Array.getElem?_toList, hcs, List.getElem?_map, show Lib.pow10Tab[20]? = none by decide]; rfl
  obtain ⟨u5, h5⟩ := hS
  obtain ⟨u6, h6⟩ := hR
  refine ⟨?_, fun p hp => ?_⟩
  rotate_left
  · have hp' : p ∈ [(2, 20)] := hp
    simp only [List.mem_cons, List.not_mem_nil, or_false] at hp'
    subst hp'
    exact hN
  intro p hp
  have hp' : p ∈ [(0, AV.agg (Lib.firstTab.map (AV.int .u8))), (1, .agg (accTab.map (AV.int .u8))), (2, .agg (Lib.pow10Tab.map (AV.int .u64))), (5, .iface 329 .undef), (6, .iface 329 .undef)] := hp
  simp only [List.mem_cons, List.not_mem_nil, or_false] at hp'
  rcases hp' with rfl | rfl | rfl | rfl | rfl
  · exact first_rep hT
  · exact acc_rep hT
  · exact tab_rep hP
  · exact err_rep h5
  · exact err_rep h6
end Go.Proofs.YtmfmdehfbpkgdaaGreatDoor
