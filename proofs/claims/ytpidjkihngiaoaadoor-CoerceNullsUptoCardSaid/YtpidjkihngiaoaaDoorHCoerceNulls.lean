/-
  The law CoerceNulls: the statement.
-/
import Derived.Test.YtpidjkihngiaoaaDoorMBulk
import Derived.Test.YtpidjkihngiaoaaDoorMGlob
import Derived.Test.YtpidjkihngiaoaaDoorGCoerceNulls8
namespace Go.Proofs.YtpidjkihngiaoaaDoor.coerceNulls
open Go Go.Av Go.ChangeShapes Go.WideShapes Go.ChangeAt Go.RowKit
set_option linter.unusedVariables false
set_option maxRecDepth 100000

theorem contract (H : Type) (enc : TypeId × Value → H) (W : World) (base : Nat) (args : Array Value) (ds gs : List (DataW H)) (before : List MemPlace)
    (hval : ∀ (j : Nat) t v, Tryd.f4.params[j]? = some t → args[j]? = some v → Value.okWide Tryd.prog W .any base t v)
    (hW : DataW.Whole enc Tryd.prog Tryd.f4.params.toList Rows.coerceNullsSpec.vars false W args.toList ds gs before) (hk : Rows.uptoSmall H (ds ++ gs) = true) (hL : laidMetH Tryd.prog seatLaid W) :
    Calls Tryd.prog 4 args W fun e W' => ∃ v, e = .returned v ∧ Rows.coerceNullsSpec.post enc Tryd.prog Tryd.f4 false true false false W args v W' := by
  have hW' := hW
  obtain ⟨p, q, hA0, hV, rfl, hfz, hnd⟩ := hW
  have hA : DataW.TrodAll enc Tryd.prog W 0 (fun _ => true) true Tryd.f4.params.toList args.toList ds p := hA0
  rw [Tryd.params4] at hA hval
  obtain ⟨v0, vs0, d0, ds0, p0, q0, hargs, rfl, rfl, h0, r0⟩ := trodAll_cons hA
  obtain ⟨v1, vs1, d1, ds1, p1, q1, rfl, rfl, rfl, h1, r1⟩ := trodAll_cons r0
  obtain ⟨v2, vs2, d2, ds2, p2, q2, rfl, rfl, rfl, h2, r2⟩ := trodAll_cons r1
  obtain ⟨rfl, rfl, rfl⟩ := trodAll_nil r2
  obtain rfl : args = #[v0, v1, v2] := by cases args; simp_all
  obtain ⟨rfl, rfl⟩ := trodVars_none hV
  obtain ⟨x0, r0, s0, k0⟩ := read_arg reads_sch (by kernel_rfl) (hval 0 24 v0 rfl rfl) h0
  obtain ⟨x1, r1, s1, k1⟩ := read_arg reads_typ (by kernel_rfl) (hval 1 43 v1 rfl rfl) h1
  obtain ⟨x2, r2, s2, k2⟩ := read_arg reads_str (by kernel_rfl) (hval 2 9 v2 rfl rfl) h2
  clear hA0
  simp only [List.append_nil] at hW' hk
  have hb := small_bulk hk
  simp only [bulkAll] at hb
  refine (PFn.true_below (coerceNulls x0 x1 x2 (by omega) (Sch.okD_of k0)) (glob_ok hL) (W := W) (args := #[v0, v1, v2]) ⟨v0, _, rfl, r0, ⟨v1, _, rfl, r1, ⟨v2, _, rfl, r2, rfl⟩⟩⟩).mono fun e W' ⟨he, hg⟩ => ?_
  subst he
  exact ⟨_, rfl, post_true (tb := 4) (by kernel_rfl) rfl rfl Tryd.underlying4 (by rw [Tryd.params4]; intro t ht; simp only [List.mem_cons, List.not_mem_nil, or_false] at ht; rcases ht with rfl | rfl | rfl <;> exact of_decide_eq_true (by kernel_rfl)) rfl hW' hg⟩

theorem met (os : Os) : laidMetH Tryd.prog seatLaid ((World.laidAll Tryd.prog os seatLaid).forCall (fun _ _ => 0) ⟨#[], #[Value.agg #[.slice none 0 0, .string .empty, .string .empty], Value.agg #[.string .empty, .int .i64 0, .int .i64 0], Value.string .empty], []⟩).memory := by
  rw [MakeChecks.laidMetH_plain _ _ _ (by kernel_rfl)]
  exact laidMet_laidAll _ (by kernel_rfl) (by kernel_rfl)
theorem okInput (os : Os) : Input.okWideB Tryd.prog ((World.laidAll Tryd.prog os seatLaid).forCall (fun _ _ => 0) ⟨#[], #[Value.agg #[.slice none 0 0, .string .empty, .string .empty], Value.agg #[.string .empty, .int .i64 0, .int .i64 0], Value.string .empty], []⟩) 4 ⟨#[], #[Value.agg #[.slice none 0 0, .string .empty, .string .empty], Value.agg #[.string .empty, .int .i64 0, .int .i64 0], Value.string .empty], []⟩ = true := by kernel_rfl
theorem shaped (os : Os) : ((World.laidAll Tryd.prog os seatLaid).forCall (fun _ _ => 0) ⟨#[], #[Value.agg #[.slice none 0 0, .string .empty, .string .empty], Value.agg #[.string .empty, .int .i64 0, .int .i64 0], Value.string .empty], []⟩).Shaped Tryd.prog := World.shaped_of_ZipB (by kernel_rfl) (by kernel_rfl)
set_option maxRecDepth 100000 in
theorem lifted (os : Os) (started : os.Started) (H : Type) (enc : TypeId × Value → H) (F : Stop.Interp) :
    ReturnsInHanded {} Tryd.checked os 4 .any ((Rows.OpenSpec.upto Rows.coerceNullsSpec).preRow enc Tryd.prog Tryd.f4 Rows.coerceNullsUptoRow.domain false Rows.coerceNullsUptoRow.laid) (((Rows.OpenSpec.upto Rows.coerceNullsSpec).at F).post enc Tryd.prog Tryd.f4 false true false false) := by
  refine returnsInHanded_of_row (C := Tryd.checked) (s := Rows.OpenSpec.upto Rows.coerceNullsSpec) own started (by kernel_rfl) Tryd.func4
    ⟨World.laidAll Tryd.prog os seatLaid, fun _ _ => 0, ⟨#[], #[Value.agg #[.slice none 0 0, .string .empty, .string .empty], Value.agg #[.string .empty, .int .i64 0, .int .i64 0], Value.string .empty], []⟩, World.laidAll_os _ _ _, shaped os, (Input.okWide_of_okWideB (base := 0) (okInput os)).1, (Input.okWide_of_okWideB (okInput os)).2,
      OpenSpec.preRow_of_cond 12 (x := ([.agg [.nil, .lit (.string []), .lit (.string [])], .agg [.lit (.string []), .lit (.int .i64 0), .lit (.int .i64 0)], .lit (.string [])], [], [])) (by kernel_rfl) (by kernel_rfl) (fun k hk => by cases hk; kernel_rfl) (by kernel_rfl) (met os), by
        simp only [Assume.holds]
        exact ⟨by simp, by simp, fun _ => Modest.zero, by simp, by simp⟩⟩ ?_
  intro W base args ds gs before hval hW _ hcond _ hL _ _
  exact contract H enc W base args ds gs before hval hW (hcond _ rfl) hL

theorem row : Rows.CoerceNullsUptoSaid :=
  OpenClaim.holds_of_cond 4 Tryd.f4 rfl rfl rfl rfl rfl rfl rfl ⟨rfl, rfl, rfl, rfl, rfl⟩ rfl rfl rfl rfl rfl (by kernel_rfl) Tryd.func4 (by kernel_rfl)
    (of_decide_eq_true (by kernel_rfl)) (by unfold Func.isWrapper; first | (rw [if_pos (by decide +kernel)]; kernel_rfl) | (rw [if_neg (by decide +kernel)]; exact ⟨rfl, rfl⟩))
    (fun os started H enc _ F => by rw [OpenClaim.pre_eq_preRow]; exact lifted os started H enc F)

theorem said : Rows.CoerceNullsUptoCardSaid :=
  Claim7.holds_tied_plain_at .later [] _ _ _ _ row (fun _ h => by cases h) (by kernel_rfl) (fun _ h => by cases h) coerceNullsUpto_row_tie rfl ⟨rfl, rfl⟩ (by kernel_rfl) rfl
    (fun f fn hf hfn => by
      obtain rfl : f = 4 := (Option.some.inj ((show Tryd.prog.funcNamed _ = some 4 by kernel_rfl).symm.trans hf)).symm
      obtain rfl : fn = Tryd.f4 := (Option.some.inj (Tryd.func4.symm.trans hfn)).symm
      exact ⟨by kernel_rfl, fun j t ht => by
        rw [Tryd.params4] at ht
        have hm : t ∈ [24, 43, 9] := by simpa using Array.mem_of_getElem? ht
        have hall : ([24, 43, 9].all fun u => !Tryd.prog.wantsStandIn u) = true := by kernel_rfl
        exact (show Tryd.prog.wantsStandIn t = false by simpa using List.all_eq_true.1 hall t hm)⟩)
    (by kernel_rfl)
end Go.Proofs.YtpidjkihngiaoaaDoor.coerceNulls
