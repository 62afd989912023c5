/-
  The law CoerceAgain: the statement.
-/
import Derived.Test.YtegakkonlhmeaaaGreatDoorMBulk
import Derived.Test.YtegakkonlhmeaaaGreatDoorMGlob
import Derived.Test.YtegakkonlhmeaaaGreatDoorGSCA17
namespace Go.Proofs.YtegakkonlhmeaaaGreatDoor.coerceAgain
open Go Go.Av Go.ChangeShapes Go.WideShapes Go.ChangeAt Go.RowKit
set_option linter.unusedVariables false
set_option maxRecDepth 100000

theorem contract (H : Type) (enc : TypeId × Value → H) (W : World) (base : Nat) (args : Array Value) (ds gs : List (DataW H)) (before : List MemPlace)
    (hval : ∀ (j : Nat) t v, Tryz.f11.params[j]? = some t → args[j]? = some v → Value.okWide Tryz.prog W .any base t v)
    (hW : DataW.Whole enc Tryz.prog Tryz.f11.params.toList Rows.coerceAgainSpec.vars false W args.toList ds gs before) (hk : Rows.uptoSmall H (ds ++ gs) = true) (hL : laidMetH Tryz.prog seatLaid W) :
    Calls Tryz.prog 11 args W fun e W' => ∃ v, e = .returned v ∧ Rows.coerceAgainSpec.post enc Tryz.prog Tryz.f11 false true false false W args v W' := by
  have hW' := hW
  obtain ⟨p, q, hA0, hV, rfl, hfz, hnd⟩ := hW
  have hA : DataW.TrodAll enc Tryz.prog W 0 (fun _ => true) true Tryz.f11.params.toList args.toList ds p := hA0
  rw [Tryz.params11] at hA hval
  obtain ⟨v0, vs0, d0, ds0, p0, q0, hargs, rfl, rfl, h0, r0⟩ := trodAll_cons hA
  obtain ⟨v1, vs1, d1, ds1, p1, q1, rfl, rfl, rfl, h1, r1⟩ := trodAll_cons r0
  obtain ⟨v2, vs2, d2, ds2, p2, q2, rfl, rfl, rfl, h2, r2⟩ := trodAll_cons r1
  obtain ⟨rfl, rfl, rfl⟩ := trodAll_nil r2
  obtain rfl : args = #[v0, v1, v2] := by cases args; simp_all
  obtain ⟨rfl, rfl⟩ := trodVars_none hV
  obtain ⟨x0, r0, s0, k0⟩ := read_arg reads_sch (by kernel_rfl) (hval 0 24 v0 rfl rfl) h0
  obtain ⟨x1, r1, s1, k1⟩ := read_arg reads_typ (by kernel_rfl) (hval 1 40 v1 rfl rfl) h1
  obtain ⟨x2, r2, s2, k2⟩ := read_arg reads_val (by kernel_rfl) (hval 2 48 v2 rfl rfl) h2
  clear hA0
  simp only [List.append_nil] at hW' hk
  have hb := small_bulk hk
  simp only [bulkAll] at hb
  refine (PFn.true_below (coerceAgain x0 x1 x2 (by omega) k0 k2) (glob_ok hL) (W := W) (args := #[v0, v1, v2]) ⟨v0, _, rfl, r0, ⟨v1, _, rfl, r1, ⟨v2, _, rfl, r2, rfl⟩⟩⟩).mono fun e W' ⟨he, hg⟩ => ?_
  subst he
  exact ⟨_, rfl, post_true (tb := 4) (by kernel_rfl) rfl rfl Tryz.underlying4 (by rw [Tryz.params11]; intro t ht; simp only [List.mem_cons, List.not_mem_nil, or_false] at ht; rcases ht with rfl | rfl | rfl <;> exact of_decide_eq_true (by kernel_rfl)) rfl hW' hg⟩

theorem met (os : Os) : laidMetH Tryz.prog seatLaid ((World.laidAll Tryz.prog os seatLaid).forCall (fun _ _ => 0) ⟨#[], #[Value.agg #[.slice none 0 0, .string .empty, .string .empty], Value.agg #[.string .empty, .int .i64 0, .int .i64 0], Value.agg #[.int .i64 0, .int .i64 0, .string .empty, .slice none 0 0, .slice none 0 0]], []⟩).memory := by
  rw [MakeChecks.laidMetH_plain _ _ _ (by kernel_rfl)]
  exact laidMet_laidAll _ (by kernel_rfl) (by kernel_rfl)
theorem okInput (os : Os) : Input.okWideB Tryz.prog ((World.laidAll Tryz.prog os seatLaid).forCall (fun _ _ => 0) ⟨#[], #[Value.agg #[.slice none 0 0, .string .empty, .string .empty], Value.agg #[.string .empty, .int .i64 0, .int .i64 0], Value.agg #[.int .i64 0, .int .i64 0, .string .empty, .slice none 0 0, .slice none 0 0]], []⟩) 11 ⟨#[], #[Value.agg #[.slice none 0 0, .string .empty, .string .empty], Value.agg #[.string .empty, .int .i64 0, .int .i64 0], Value.agg #[.int .i64 0, .int .i64 0, .string .empty, .slice none 0 0, .slice none 0 0]], []⟩ = true := by kernel_rfl
theorem shaped (os : Os) : ((World.laidAll Tryz.prog os seatLaid).forCall (fun _ _ => 0) ⟨#[], #[Value.agg #[.slice none 0 0, .string .empty, .string .empty], Value.agg #[.string .empty, .int .i64 0, .int .i64 0], Value.agg #[.int .i64 0, .int .i64 0, .string .empty, .slice none 0 0, .slice none 0 0]], []⟩).Shaped Tryz.prog := World.shaped_of_ZipB (by kernel_rfl) (by kernel_rfl)
set_option maxRecDepth 100000 in
theorem lifted (os : Os) (started : os.Started) (H : Type) (enc : TypeId × Value → H) (F : Stop.Interp) :
    ReturnsInHanded {} Tryz.checked os 11 .any ((Rows.OpenSpec.upto Rows.coerceAgainSpec).preRow enc Tryz.prog Tryz.f11 Rows.coerceAgainUptoRow.domain false Rows.coerceAgainUptoRow.laid) (((Rows.OpenSpec.upto Rows.coerceAgainSpec).at F).post enc Tryz.prog Tryz.f11 false true false false) := by
  refine returnsInHanded_of_row (C := Tryz.checked) (s := Rows.OpenSpec.upto Rows.coerceAgainSpec) own started (by kernel_rfl) Tryz.func11
    ⟨World.laidAll Tryz.prog os seatLaid, fun _ _ => 0, ⟨#[], #[Value.agg #[.slice none 0 0, .string .empty, .string .empty], Value.agg #[.string .empty, .int .i64 0, .int .i64 0], Value.agg #[.int .i64 0, .int .i64 0, .string .empty, .slice none 0 0, .slice none 0 0]], []⟩, World.laidAll_os _ _ _, shaped os, (Input.okWide_of_okWideB (base := 0) (okInput os)).1, (Input.okWide_of_okWideB (okInput os)).2,
      OpenSpec.preRow_of_cond 12 (x := ([.agg [.nil, .lit (.string []), .lit (.string [])], .agg [.lit (.string []), .lit (.int .i64 0), .lit (.int .i64 0)], .agg [.lit (.int .i64 0), .lit (.int .i64 0), .lit (.string []), .nil, .nil]], [], [])) (by kernel_rfl) (by kernel_rfl) (fun k hk => by cases hk; kernel_rfl) (by kernel_rfl) (met os), by
        simp only [Assume.holds]
        exact ⟨by simp, by simp, fun _ => Modest.zero, by simp, by simp⟩⟩ ?_
  intro W base args ds gs before hval hW _ hcond _ hL _ _
  exact contract H enc W base args ds gs before hval hW (hcond _ rfl) hL

theorem fact0 : ((Rows.coerceAgainUptoRow).wf (OpenSpec.ofChange ((Rows.OpenSpec.upto Rows.coerceAgainSpec).bare))) = true := by kernel_rfl
theorem fact1 : (laidOutB Tryz.prog) = true := by kernel_rfl
theorem fact2 : (mapsRowed Tryz.prog) = true := by kernel_rfl
theorem fact3 : ((Tryz.f11).params.all ((Tryz.prog).readableRec ·)) = true := by kernel_rfl
theorem fact4 : (namedTie Tryz.prog (Rows.coerceAgainUptoRow).named ((Rows.OpenSpec.upto Rows.coerceAgainSpec).bare).vars) = true := by kernel_rfl
theorem fact5 : (((Rows.coerceAgainUptoRow).stops == [])) = true := by kernel_rfl
theorem fact6 : (((Tryz.prog).stops == [])) = true := by kernel_rfl
theorem fact7 : (((Rows.coerceAgainUptoRow).knobs == [])) = true := by kernel_rfl
theorem fact8 : (((Tryz.prog).stopKnobs == [])) = true := by kernel_rfl
theorem fact9 : (((Rows.coerceAgainUptoRow).inPlace == (Tryz.prog).inPlace 11)) = true := by kernel_rfl
theorem fact10 : (((Rows.coerceAgainUptoRow).unfollowed == (Tryz.prog).unfollowed 11)) = true := by kernel_rfl
theorem fact11 : (((Rows.coerceAgainUptoRow).recurses == (Tryz.prog).recurses 11)) = true := by kernel_rfl
theorem fact12 : (((Rows.coerceAgainUptoRow).named == (Tryz.prog).varsNamed 11)) = true := by kernel_rfl
theorem fact13 : (((Rows.coerceAgainUptoRow).maps == ((Tryz.f11).params.toList ++ ((Rows.OpenSpec.upto Rows.coerceAgainSpec).bare).plain.varTypes Tryz.prog).any ((Tryz.prog).mapsRec ·))) = true := by kernel_rfl
theorem fact14 : (((Rows.coerceAgainUptoRow).ifaces == ((Tryz.f11).params.toList ++ ((Rows.OpenSpec.upto Rows.coerceAgainSpec).bare).plain.varTypes Tryz.prog).any ((Tryz.prog).ifacesRec ·))) = true := by kernel_rfl
theorem fact15 : (((Rows.coerceAgainUptoRow).mapsOut == (Tryz.prog).mapsAmong (Tryz.f11).resultTypes.toList)) = true := by kernel_rfl
theorem fact16 : (((Rows.coerceAgainUptoRow).loops == ((Tryz.f11).params.toList ++ ((Rows.OpenSpec.upto Rows.coerceAgainSpec).bare).plain.varTypes Tryz.prog).any ((Tryz.prog).loopsFrom ·))) = true := by kernel_rfl
theorem fact17 : (((Rows.coerceAgainUptoRow).wideKeys == ((Tryz.f11).params.toList ++ ((Rows.OpenSpec.upto Rows.coerceAgainSpec).bare).plain.varTypes Tryz.prog ++ (Tryz.f11).resultTypes.toList).any ((Tryz.prog).wideKeysFrom ·))) = true := by kernel_rfl
theorem fact18 : (((Rows.OpenSpec.upto Rows.coerceAgainSpec).bare).vars.all ((Tryz.prog).varReadable ·)) = true := by kernel_rfl
theorem fact19 : ((Tryz.f11).resultTypes.all (fun t => (Tryz.prog).readableRec t && decide (t < (Tryz.prog).types.size))) = true := by kernel_rfl
theorem fact20 : (((Rows.coerceAgainUptoRow).ifacesOut == (Tryz.f11).resultTypes.toList.any ((Tryz.prog).ifacesRec ·))) = true := by kernel_rfl
theorem fact21 : (((Rows.coerceAgainUptoRow).loopsOut == (Tryz.f11).resultTypes.toList.any ((Tryz.prog).loopsFrom ·))) = true := by kernel_rfl
theorem fact22 : (((Rows.coerceAgainUptoRow).plainKeys == (Tryz.prog).plainKeys)) = true := by kernel_rfl
theorem fact23 : ((Rows.coerceAgainUptoRow).shortTexts.isNone) = true := by kernel_rfl
theorem fact24 : ((Tryz.prog).stopsHeard) = true := by kernel_rfl
theorem fact25 : ((Tryz.prog).mayEnter) = true := by kernel_rfl
theorem fact26 : (((Rows.coerceAgainUptoRow).lifted == (Tryz.prog).liftsFinal)) = true := by kernel_rfl
theorem fact27 : (((Tryz.prog).make == some (Rows.coerceAgainUptoRow).make)) = true := by kernel_rfl
theorem fact28 : (((Rows.coerceAgainUptoRow).kinds == (if (Rows.coerceAgainUptoRow).domain.isEmpty then [] else (Tryz.f11).params.toList.map fun t => match (Tryz.prog).underlying t with | some (.int k) => some k | _ => none))) = true := by kernel_rfl
theorem fact29 : (((Rows.coerceAgainUptoRow).pinned == (Rows.coerceAgainUptoRow).pinnedBy)) = true := by kernel_rfl
theorem fact30 : (((Rows.coerceAgainUptoRow).veiled == ((Tryz.f11).params.toList ++ ((Rows.OpenSpec.upto Rows.coerceAgainSpec).bare).plain.varTypes Tryz.prog ++ (Tryz.f11).resultTypes.toList).any ((Tryz.prog).veiledRec ·))) = true := by kernel_rfl
theorem fact31 : ((Rows.coerceAgainUptoRow).veiledFits Tryz.prog (Tryz.f11).params.toList ((Tryz.f11).params.toList ++ ((Rows.OpenSpec.upto Rows.coerceAgainSpec).bare).plain.varTypes Tryz.prog ++ (Tryz.f11).resultTypes.toList)) = true := by kernel_rfl
theorem facts : joinedFacts Tryz.prog 11 Tryz.f11 ((Rows.OpenSpec.upto Rows.coerceAgainSpec).bare) Rows.coerceAgainUptoRow = true := by
  unfold joinedFacts
  simp only [Bool.and_eq_true]
  exact ⟨⟨⟨⟨⟨⟨⟨⟨⟨⟨⟨⟨⟨⟨⟨⟨⟨⟨⟨⟨⟨⟨⟨⟨⟨⟨⟨⟨⟨⟨⟨fact0, fact1⟩, fact2⟩, fact3⟩, fact4⟩, fact5⟩, fact6⟩, fact7⟩, fact8⟩, fact9⟩, fact10⟩, fact11⟩, fact12⟩, fact13⟩, fact14⟩, fact15⟩, fact16⟩, fact17⟩, fact18⟩, fact19⟩, fact20⟩, fact21⟩, fact22⟩, fact23⟩, fact24⟩, fact25⟩, fact26⟩, fact27⟩, fact28⟩, fact29⟩, fact30⟩, fact31⟩
theorem fname : Tryz.pinned.checked.prog.funcNamed (Rows.coerceAgainUptoRow).func = some 11 := by kernel_rfl
theorem finst : (Tryz.f11).isInstance Tryz.prog (Rows.coerceAgainUptoRow).origin (Rows.coerceAgainUptoRow).targs := of_decide_eq_true (by kernel_rfl)
theorem fwrap : (Tryz.f11).isWrapper Tryz.prog (Rows.coerceAgainUptoRow).wrapper (Rows.coerceAgainUptoRow).mainSum := by unfold Func.isWrapper; first | (rw [if_pos (by decide +kernel)]; kernel_rfl) | (rw [if_neg (by decide +kernel)]; exact ⟨rfl, rfl⟩)
theorem row : Rows.CoerceAgainUptoSaid :=
  OpenClaim.holds_of_cond 11 Tryz.f11 rfl rfl rfl rfl rfl rfl rfl ⟨rfl, rfl, rfl, rfl, rfl⟩ rfl rfl rfl rfl rfl fname Tryz.func11 facts finst fwrap
    (fun os started H enc _ F => by rw [OpenClaim.pre_eq_preRow]; exact lifted os started H enc F)

theorem fwf : (Rows.coerceAgainUptoRow).wfByText (Rows.OpenSpec.upto Rows.coerceAgainSpec) = true := by kernel_rfl
theorem fmain : Tryz.pinned.checked.prog.mainIs = some ((Rows.coerceAgainUptoCard).stood.harness.1, (Rows.coerceAgainUptoCard).stood.harness.2.toList) := by kernel_rfl
theorem flooks : (Rows.coerceAgainUptoCard).stood.looks = Tryz.pinned.checked.prog.looks [] := by kernel_rfl
theorem fgoes : false = (Rows.coerceAgainUptoRow).goesBy Tryz.pinned.checked.prog := by kernel_rfl
theorem fstand : ([24, 40, 48].all fun u => !Tryz.prog.wantsStandIn u) = true := by kernel_rfl
theorem said : Rows.CoerceAgainUptoCardSaid :=
  Claim7.holds_tied_plain_at .later [] _ _ _ _ row (fun _ h => by cases h) fwf (fun _ h => by cases h) coerceAgainUpto_row_tie rfl ⟨rfl, rfl⟩ fmain rfl
    (fun f fn hf hfn => by
      obtain rfl : f = 11 := (Option.some.inj (fname.symm.trans hf)).symm
      obtain rfl : fn = Tryz.f11 := (Option.some.inj (Tryz.func11.symm.trans hfn)).symm
      exact ⟨flooks, fun j t ht => by
        rw [Tryz.params11] at ht
        have hm : t ∈ [24, 40, 48] := by simpa using Array.mem_of_getElem? ht
        exact (show Tryz.prog.wantsStandIn t = false by simpa using List.all_eq_true.1 fstand t hm)⟩)
    fgoes
end Go.Proofs.YtegakkonlhmeaaaGreatDoor.coerceAgain
