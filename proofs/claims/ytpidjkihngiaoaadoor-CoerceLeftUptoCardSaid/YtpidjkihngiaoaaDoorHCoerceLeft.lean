/-
  The law CoerceLeft: the statement.
-/
import Derived.Test.YtpidjkihngiaoaaDoorMBulk
import Derived.Test.YtpidjkihngiaoaaDoorMGlob
import Derived.Test.YtpidjkihngiaoaaDoorGCoerceLeft8
namespace Go.Proofs.YtpidjkihngiaoaaDoor.coerceLeft
open Go Go.Av Go.ChangeShapes Go.WideShapes Go.ChangeAt Go.RowKit
set_option linter.unusedVariables false
set_option maxRecDepth 100000

theorem contract (H : Type) (enc : TypeId × Value → H) (W : World) (base : Nat) (args : Array Value) (ds gs : List (DataW H)) (before : List MemPlace)
    (hval : ∀ (j : Nat) t v, Tryd.f3.params[j]? = some t → args[j]? = some v → Value.okWide Tryd.prog W .any base t v)
    (hW : DataW.Whole enc Tryd.prog Tryd.f3.params.toList Rows.coerceLeftSpec.vars false W args.toList ds gs before) (hk : Rows.uptoSmall H (ds ++ gs) = true) (hL : laidMetH Tryd.prog seatLaid W) :
    Calls Tryd.prog 3 args W fun e W' => ∃ v, e = .returned v ∧ Rows.coerceLeftSpec.post enc Tryd.prog Tryd.f3 false true false false W args v W' := by
  have hW' := hW
  obtain ⟨p, q, hA0, hV, rfl, hfz, hnd⟩ := hW
  have hA : DataW.TrodAll enc Tryd.prog W 0 (fun _ => true) true Tryd.f3.params.toList args.toList ds p := hA0
  rw [Tryd.params3] at hA hval
  obtain ⟨v0, vs0, d0, ds0, p0, q0, hargs, rfl, rfl, h0, r0⟩ := trodAll_cons hA
  obtain ⟨v1, vs1, d1, ds1, p1, q1, rfl, rfl, rfl, h1, r1⟩ := trodAll_cons r0
  obtain ⟨v2, vs2, d2, ds2, p2, q2, rfl, rfl, rfl, h2, r2⟩ := trodAll_cons r1
  obtain ⟨v3, vs3, d3, ds3, p3, q3, rfl, rfl, rfl, h3, r3⟩ := trodAll_cons r2
  obtain ⟨rfl, rfl, rfl⟩ := trodAll_nil r3
  obtain rfl : args = #[v0, v1, v2, v3] := by cases args; simp_all
  obtain ⟨rfl, rfl⟩ := trodVars_none hV
  obtain ⟨x0, r0, s0, k0⟩ := read_arg reads_sch (by kernel_rfl) (hval 0 24 v0 rfl rfl) h0
  obtain ⟨x1, r1, s1, k1⟩ := read_arg reads_pars (by kernel_rfl) (hval 1 25 v1 rfl rfl) h1
  obtain ⟨x2, r2, s2, k2⟩ := read_arg reads_mems (by kernel_rfl) (hval 2 26 v2 rfl rfl) h2
  obtain ⟨x3, r3, s3, k3⟩ := read_arg reads_mems (by kernel_rfl) (hval 3 26 v3 rfl rfl) h3
  clear hA0
  simp only [List.append_nil] at hW' hk
  have hb := small_bulk hk
  simp only [bulkAll] at hb
  refine (PFn.true_below (coerceLeft x0 x1 x2 x3 (by omega) (Sch.okD_of k0) k1 k2) (glob_ok hL) (W := W) (args := #[v0, v1, v2, v3]) ⟨v0, _, rfl, r0, ⟨v1, _, rfl, r1, ⟨v2, _, rfl, r2, ⟨v3, _, rfl, r3, rfl⟩⟩⟩⟩).mono fun e W' ⟨he, hg⟩ => ?_
  subst he
  exact ⟨_, rfl, post_true (tb := 4) (by kernel_rfl) rfl rfl Tryd.underlying4 (by rw [Tryd.params3]; intro t ht; simp only [List.mem_cons, List.not_mem_nil, or_false] at ht; rcases ht with rfl | rfl | rfl | rfl <;> exact of_decide_eq_true (by kernel_rfl)) rfl hW' hg⟩

theorem met (os : Os) : laidMetH Tryd.prog seatLaid ((World.laidAll Tryd.prog os seatLaid).forCall (fun _ _ => 0) ⟨#[], #[Value.agg #[.slice none 0 0, .string .empty, .string .empty], Value.slice none 0 0, Value.slice none 0 0, Value.slice none 0 0], []⟩).memory := by
  rw [MakeChecks.laidMetH_plain _ _ _ (by kernel_rfl)]
  exact laidMet_laidAll _ (by kernel_rfl) (by kernel_rfl)
theorem okInput (os : Os) : Input.okWideB Tryd.prog ((World.laidAll Tryd.prog os seatLaid).forCall (fun _ _ => 0) ⟨#[], #[Value.agg #[.slice none 0 0, .string .empty, .string .empty], Value.slice none 0 0, Value.slice none 0 0, Value.slice none 0 0], []⟩) 3 ⟨#[], #[Value.agg #[.slice none 0 0, .string .empty, .string .empty], Value.slice none 0 0, Value.slice none 0 0, Value.slice none 0 0], []⟩ = true := by kernel_rfl
theorem shaped (os : Os) : ((World.laidAll Tryd.prog os seatLaid).forCall (fun _ _ => 0) ⟨#[], #[Value.agg #[.slice none 0 0, .string .empty, .string .empty], Value.slice none 0 0, Value.slice none 0 0, Value.slice none 0 0], []⟩).Shaped Tryd.prog := World.shaped_of_ZipB (by kernel_rfl) (by kernel_rfl)
set_option maxRecDepth 100000 in
theorem lifted (os : Os) (started : os.Started) (H : Type) (enc : TypeId × Value → H) (F : Stop.Interp) :
    ReturnsInHanded {} Tryd.checked os 3 .any ((Rows.OpenSpec.upto Rows.coerceLeftSpec).preRow enc Tryd.prog Tryd.f3 Rows.coerceLeftUptoRow.domain false Rows.coerceLeftUptoRow.laid) (((Rows.OpenSpec.upto Rows.coerceLeftSpec).at F).post enc Tryd.prog Tryd.f3 false true false false) := by
  refine returnsInHanded_of_row (C := Tryd.checked) (s := Rows.OpenSpec.upto Rows.coerceLeftSpec) own started (by kernel_rfl) Tryd.func3
    ⟨World.laidAll Tryd.prog os seatLaid, fun _ _ => 0, ⟨#[], #[Value.agg #[.slice none 0 0, .string .empty, .string .empty], Value.slice none 0 0, Value.slice none 0 0, Value.slice none 0 0], []⟩, World.laidAll_os _ _ _, shaped os, (Input.okWide_of_okWideB (base := 0) (okInput os)).1, (Input.okWide_of_okWideB (okInput os)).2,
      OpenSpec.preRow_of_cond 12 (x := ([.agg [.nil, .lit (.string []), .lit (.string [])], .nil, .nil, .nil], [], [])) (by kernel_rfl) (by kernel_rfl) (fun k hk => by cases hk; kernel_rfl) (by kernel_rfl) (met os), by
        simp only [Assume.holds]
        exact ⟨by simp, by simp, fun _ => Modest.zero, by simp, by simp⟩⟩ ?_
  intro W base args ds gs before hval hW _ hcond _ hL _ _
  exact contract H enc W base args ds gs before hval hW (hcond _ rfl) hL

theorem row : Rows.CoerceLeftUptoSaid :=
  OpenClaim.holds_of_cond 3 Tryd.f3 rfl rfl rfl rfl rfl rfl rfl ⟨rfl, rfl, rfl, rfl, rfl⟩ rfl rfl rfl rfl rfl (by kernel_rfl) Tryd.func3 (by kernel_rfl)
    (of_decide_eq_true (by kernel_rfl)) (by unfold Func.isWrapper; first | (rw [if_pos (by decide +kernel)]; kernel_rfl) | (rw [if_neg (by decide +kernel)]; exact ⟨rfl, rfl⟩))
    (fun os started H enc _ F => by rw [OpenClaim.pre_eq_preRow]; exact lifted os started H enc F)

theorem said : Rows.CoerceLeftUptoCardSaid :=
  Claim7.holds_tied_plain_at .later [] _ _ _ _ row (fun _ h => by cases h) (by kernel_rfl) (fun _ h => by cases h) coerceLeftUpto_row_tie rfl ⟨rfl, rfl⟩ (by kernel_rfl) rfl
    (fun f fn hf hfn => by
      obtain rfl : f = 3 := (Option.some.inj ((show Tryd.prog.funcNamed _ = some 3 by kernel_rfl).symm.trans hf)).symm
      obtain rfl : fn = Tryd.f3 := (Option.some.inj (Tryd.func3.symm.trans hfn)).symm
      exact ⟨by kernel_rfl, fun j t ht => by
        rw [Tryd.params3] at ht
        have hm : t ∈ [24, 25, 26, 26] := by simpa using Array.mem_of_getElem? ht
        have hall : ([24, 25, 26, 26].all fun u => !Tryd.prog.wantsStandIn u) = true := by kernel_rfl
        exact (show Tryd.prog.wantsStandIn t = false by simpa using List.all_eq_true.1 hall t hm)⟩)
    (by kernel_rfl)
end Go.Proofs.YtpidjkihngiaoaaDoor.coerceLeft
