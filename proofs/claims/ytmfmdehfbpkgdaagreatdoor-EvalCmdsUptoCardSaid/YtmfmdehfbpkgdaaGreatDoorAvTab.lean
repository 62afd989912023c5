/-
  Contracts of the library that others have proved, as contracts of this library; package-level tables as frozen data.
-/
import Derived.Below
import Derived.Lib.LaidU8
import Derived.Lib.ItoaNum
import Derived.Test.YtmfmdehfbpkgdaaGreatDoorAvRen4
namespace Go.Av
open Go Go.RowKit
set_option linter.unusedSectionVars false
set_option linter.unusedVariables false
variable [Globals]
theorem PFn.ofBelow {P : Program} {f : FuncId} {args : List AV} {r : AV} (hc : Callable P f) (ha : AV.closedL args = true)
    (h : ∀ (im : Nat → Nat → Prop) (w : World) (vals : Array Value), (∀ b o, im b o → b < w.heap.size) → GlobOk im w → RepL ⟨[], [], im⟩ w args vals.toList →
      Calls P f vals w fun e w' => (∃ u, e = .returned u ∧ Rep ⟨[], [], im⟩ w' r u) ∧ Below w.heap.size w w') : PFn P f args r := by
  refine ⟨hc, ha, fun im w vals him hgl hl => (h im w vals him hgl hl).mono ?_⟩
  rintro e w' ⟨⟨u, rfl, hu⟩, hb⟩
  have hcell : ∀ b o, b < w.heap.size → w'.cell? ⟨b, o, none⟩ = w.cell? ⟨b, o, none⟩ ∧ w'.frozen? ⟨b, o, none⟩ = w.frozen? ⟨b, o, none⟩ := fun b o hlt => cell_old (hb.block b hlt)
  exact ⟨im, ⟨⟨fun b o hi => ⟨hi, (hcell b o (him b o hi)).1⟩, fun _ _ h => h, fun _ r h => ⟨r, h, .inl rfl⟩⟩, hb.size, hb.os, hb.tape, hb.output, fun b hlt _ _ => hb.block b hlt, fun b o hlt _ _ => hcell b o hlt,
    fun _ _ h => .inl h, fun _ h => .inl h, fun k r h => by simp at h⟩, fun b o hi => Nat.lt_of_lt_of_le (him b o hi) hb.size, u, rfl, hu⟩
theorem repL_ints {g : Gh} {w : World} {k : IntKind} : ∀ zs : List Int, RepL g w (zs.map (AV.int k)) (zs.map (Value.int k))
  | [] => rfl
  | z :: zs => ⟨_, _, rfl, rfl, repL_ints zs⟩
theorem ints_of_repL {g : Gh} {w : World} {k : IntKind} : ∀ {zs : List Int} {vs : List Value}, RepL g w (zs.map (AV.int k)) vs → vs = zs.map (Value.int k)
  | [], _, h => h
  | _ :: _, _, ⟨_, _, e, h1, h2⟩ => by rw [e, show _ = _ from h1, ints_of_repL h2]; rfl
theorem tab_rep {k : IntKind} {zs : List Int} {b : Nat} {w : World} (h : ∀ (i : Nat) (z : Int), zs[i]? = some z → w.cell? ⟨b, i, none⟩ = some (.int k z)) :
    Rep ⟨[], [], fun b _ => b < w.heap.size⟩ w (.rptr (.agg (zs.map (AV.int k)))) (.pointer (some ⟨b, 0, none⟩)) := by
  refine ⟨b, 0, .agg (zs.map (Value.int k)).toArray, rfl, fun j u hj => ?_, ⟨_, rfl, repL_ints zs, fun u hu => ?_⟩⟩
  · have hj' : (zs.map (Value.int k))[j]? = some u := by simpa [Value.cells] using hj
    rw [List.getElem?_map] at hj'
    obtain ⟨z, hz, rfl⟩ := Option.map_eq_some_iff.1 hj'
    rw [Nat.zero_add]
    have hc := h j z hz
    refine ⟨?_, hc, rfl⟩
    unfold World.cell? at hc
    cases hb : w.heap[b]? with
    | none => simp [hb] at hc
    | some x => exact (Array.getElem?_eq_some_iff.1 hb).1
  · simp only [List.mem_map] at hu
    obtain ⟨z, _, rfl⟩ := hu
    rfl
theorem tab_cells {g : Gh} {k : IntKind} {zs : List Int} {b : Nat} {w : World} (h : Rep g w (.rptr (.agg (zs.map (AV.int k)))) (.pointer (some ⟨b, 0, none⟩))) (i : Nat) (z : Int) (hz : zs[i]? = some z) : w.cell? ⟨b, i, none⟩ = some (.int k z) := by
  obtain ⟨b', o, V, e, hm, ⟨vs, rfl, hl, _⟩⟩ := h
  cases e
  have hv := ints_of_repL hl
  have := (hm i (.int k z) (by
    show vs[i]? = _
    rw [← Array.getElem?_toList, hv, List.getElem?_map, hz]; rfl)).2.1
  simpa using this
theorem err_rep {t : TypeId} {u : Value} {b : Nat} {w : World} (h : w.cell? ⟨b, 0, none⟩ = some (.iface t u)) :
    Rep ⟨[], [], fun b _ => b < w.heap.size⟩ w (.rptr (.iface t .undef)) (.pointer (some ⟨b, 0, none⟩)) := by
  refine ⟨b, 0, .iface t u, rfl, fun j v hj => ?_, ⟨u, rfl, trivial⟩⟩
  have hj0 : j = 0 ∧ v = .iface t u := by
    cases j with
    | zero => simp [Value.cells] at hj; exact ⟨rfl, hj.symm⟩
    | succ j => simp [Value.cells] at hj
  obtain ⟨rfl, rfl⟩ := hj0
  refine ⟨?_, h, rfl⟩
  unfold World.cell? at h
  cases hb : w.heap[b]? with
  | none => simp [hb] at h
  | some x => exact (Array.getElem?_eq_some_iff.1 hb).1
theorem err_cell {g : Gh} {t : TypeId} {b : Nat} {w : World} (h : Rep g w (.rptr (.iface t .undef)) (.pointer (some ⟨b, 0, none⟩))) : ∃ u, w.cell? ⟨b, 0, none⟩ = some (.iface t u) := by
  obtain ⟨b', o, V, e, hm, ⟨u, rfl, _⟩⟩ := h
  cases e
  exact ⟨u, by simpa using (hm 0 (.iface t u) rfl).2.1⟩
end Go.Av
namespace Go.Av
open Go Go.RowKit
set_option linter.unusedSectionVars false
set_option linter.unusedVariables false
set_option maxRecDepth 100000
variable [Globals]
def accTab : List Int := (List.range 16).flatMap fun i => [(Lib.accLo i : Int), (Lib.accHi i : Int)]
theorem firstTab_ix (c : Nat) (h : c < 256) : Lib.firstTab[c]? = some (Lib.firstT c : Int) := by
  simp [Lib.firstTab, h]
theorem accTab_ix : ∀ i : Fin 16, accTab[2 * i.val]? = some (Lib.accLo i.val : Int) ∧ accTab[2 * i.val + 1]? = some (Lib.accHi i.val : Int) := by decide
theorem accTab_len : accTab.length = 32 := by decide
theorem utf8_tabs {g : Gh} {w : World} {g3 g4 : Nat} (h3 : Rep g w (.rptr (.agg (Lib.firstTab.map (AV.int .u8)))) (.pointer (some ⟨g3, 0, none⟩))) (h4 : Rep g w (.rptr (.agg (accTab.map (AV.int .u8)))) (.pointer (some ⟨g4, 0, none⟩))) : Lib.Utf8Tabs g3 g4 w :=
  ⟨fun c hc => tab_cells h3 c _ (firstTab_ix c hc), fun i hi => ⟨tab_cells h4 _ _ (accTab_ix ⟨i, hi⟩).1, tab_cells h4 _ _ (accTab_ix ⟨i, hi⟩).2⟩⟩
theorem first_rep {w : World} {g3 g4 : Nat} (h : Lib.Utf8Tabs g3 g4 w) : Rep ⟨[], [], fun b _ => b < w.heap.size⟩ w (.rptr (.agg (Lib.firstTab.map (AV.int .u8)))) (.pointer (some ⟨g3, 0, none⟩)) :=
  tab_rep fun i z hz => by
    have hlt : i < 256 := by have := (List.getElem?_eq_some_iff.1 hz).1; simpa [Lib.firstTab] using this
    rw [firstTab_ix i hlt] at hz
    cases hz
    exact h.1 i hlt
theorem acc_rep {w : World} {g3 g4 : Nat} (h : Lib.Utf8Tabs g3 g4 w) : Rep ⟨[], [], fun b _ => b < w.heap.size⟩ w (.rptr (.agg (accTab.map (AV.int .u8)))) (.pointer (some ⟨g4, 0, none⟩)) :=
  tab_rep fun i z hz => by
    have hlt : i < 32 := by have := (List.getElem?_eq_some_iff.1 hz).1; rwa [accTab_len] at this
    rcases Nat.mod_two_eq_zero_or_one i with e | e
    · have h1 := (accTab_ix ⟨i / 2, by omega⟩).1
      have h2 := (h.2 (i / 2) (by omega)).1
      simp only at h1
      rw [show 2 * (i / 2) = i by omega] at h1 h2
      rw [h1] at hz
      cases hz
      exact h2
    · have h1 := (accTab_ix ⟨i / 2, by omega⟩).2
      have h2 := (h.2 (i / 2) (by omega)).2
      simp only at h1
      rw [show 2 * (i / 2) + 1 = i by omega] at h1 h2
      rw [h1] at hz
      cases hz
      exact h2
end Go.Av
