/-
  The law EvalCmds: the statement.
-/
import Derived.Test.YtmfmdehfbpkgdaaGreatDoorMBulk
import Derived.Test.YtmfmdehfbpkgdaaGreatDoorMGlob
import Derived.Test.YtmfmdehfbpkgdaaGreatDoorGEvC18
namespace Go.Proofs.YtmfmdehfbpkgdaaGreatDoor.evalCmds
open Go Go.Av Go.ChangeShapes Go.WideShapes Go.ChangeAt Go.RowKit
set_option linter.unusedVariables false
set_option maxRecDepth 100000

theorem contract (H : Type) (enc : TypeId × Value → H) (W : World) (base : Nat) (args : Array Value) (ds gs : List (DataW H)) (before : List MemPlace)
    (hval : ∀ (j : Nat) t v, Tryz.f3.params[j]? = some t → args[j]? = some v → Value.okWide Tryz.prog W .any base t v)
    (hW : DataW.Whole enc Tryz.prog Tryz.f3.params.toList Rows.evalCmdsSpec.vars false W args.toList ds gs before) (hk : Rows.uptoSmall H (ds ++ gs) = true) (hL : laidMetH Tryz.prog seatLaid W) :
    Calls Tryz.prog 3 args W fun e W' => ∃ v, e = .returned v ∧ Rows.evalCmdsSpec.post enc Tryz.prog Tryz.f3 false true false false W args v W' := by
  have hW' := hW
  obtain ⟨p, q, hA0, hV, rfl, hfz, hnd⟩ := hW
  have hA : DataW.TrodAll enc Tryz.prog W 0 (fun _ => true) true Tryz.f3.params.toList args.toList ds p := hA0
  rw [Tryz.params3] at hA hval
  obtain ⟨v0, vs0, d0, ds0, p0, q0, hargs, rfl, rfl, h0, r0⟩ := trodAll_cons hA
  obtain ⟨v1, vs1, d1, ds1, p1, q1, rfl, rfl, rfl, h1, r1⟩ := trodAll_cons r0
  obtain ⟨v2, vs2, d2, ds2, p2, q2, rfl, rfl, rfl, h2, r2⟩ := trodAll_cons r1
  obtain ⟨v3, vs3, d3, ds3, p3, q3, rfl, rfl, rfl, h3, r3⟩ := trodAll_cons r2
  obtain ⟨rfl, rfl, rfl⟩ := trodAll_nil r3
  obtain rfl : args = #[v0, v1, v2, v3] := by cases args; simp_all
  obtain ⟨rfl, rfl⟩ := trodVars_none hV
  obtain ⟨x0, r0, s0, k0⟩ := read_arg reads_sch (by kernel_rfl) (hval 0 24 v0 rfl rfl) h0
  obtain ⟨x1, r1, s1, k1⟩ := read_arg reads_fld (by kernel_rfl) (hval 1 30 v1 rfl rfl) h1
  obtain ⟨x2, r2, s2, k2⟩ := read_arg reads_bnd (by kernel_rfl) (hval 2 32 v2 rfl rfl) h2
  obtain ⟨x3, r3, s3, k3⟩ := read_arg reads_mems (by kernel_rfl) (hval 3 33 v3 rfl rfl) h3
  clear hA0
  simp only [List.append_nil] at hW' hk
  have hb := small_bulk hk
  simp only [bulkAll] at hb
  refine (PFn.true_below (evalCmds x0 x1 x2 x3 (by omega) k0 (by omega)) (glob_ok hL) (W := W) (args := #[v0, v1, v2, v3]) ⟨v0, _, rfl, r0, ⟨v1, _, rfl, r1, ⟨v2, _, rfl, r2, ⟨v3, _, rfl, r3, rfl⟩⟩⟩⟩).mono fun e W' ⟨he, hg⟩ => ?_
  subst he
  exact ⟨_, rfl, post_true (tb := 4) (by kernel_rfl) rfl rfl Tryz.underlying4 (by rw [Tryz.params3]; intro t ht; simp only [List.mem_cons, List.not_mem_nil, or_false] at ht; rcases ht with rfl | rfl | rfl | rfl <;> exact of_decide_eq_true (by kernel_rfl)) rfl hW' hg⟩

theorem met (os : Os) : laidMetH Tryz.prog seatLaid ((World.laidAll Tryz.prog os seatLaid).forCall (fun _ _ => 0) ⟨#[], #[Value.agg #[.slice none 0 0, .string .empty, .string .empty], Value.agg #[.string .empty, .slice none 0 0, .string .empty, .int .i64 0, .int .i64 0, .slice none 0 0], Value.agg #[.int .i64 0, .string .empty, .string .empty, .string .empty, .string .empty], Value.slice none 0 0], []⟩).memory := by
  rw [MakeChecks.laidMetH_plain _ _ _ (by kernel_rfl)]
  exact laidMet_laidAll _ (by kernel_rfl) (by kernel_rfl)
theorem okInput (os : Os) : Input.okWideB Tryz.prog ((World.laidAll Tryz.prog os seatLaid).forCall (fun _ _ => 0) ⟨#[], #[Value.agg #[.slice none 0 0, .string .empty, .string .empty], Value.agg #[.string .empty, .slice none 0 0, .string .empty, .int .i64 0, .int .i64 0, .slice none 0 0], Value.agg #[.int .i64 0, .string .empty, .string .empty, .string .empty, .string .empty], Value.slice none 0 0], []⟩) 3 ⟨#[], #[Value.agg #[.slice none 0 0, .string .empty, .string .empty], Value.agg #[.string .empty, .slice none 0 0, .string .empty, .int .i64 0, .int .i64 0, .slice none 0 0], Value.agg #[.int .i64 0, .string .empty, .string .empty, .string .empty, .string .empty], Value.slice none 0 0], []⟩ = true := by kernel_rfl
theorem shaped (os : Os) : ((World.laidAll Tryz.prog os seatLaid).forCall (fun _ _ => 0) ⟨#[], #[Value.agg #[.slice none 0 0, .string .empty, .string .empty], Value.agg #[.string .empty, .slice none 0 0, .string .empty, .int .i64 0, .int .i64 0, .slice none 0 0], Value.agg #[.int .i64 0, .string .empty, .string .empty, .string .empty, .string .empty], Value.slice none 0 0], []⟩).Shaped Tryz.prog := World.shaped_of_ZipB (by kernel_rfl) (by kernel_rfl)
set_option maxRecDepth 100000 in
theorem lifted (os : Os) (started : os.Started) (H : Type) (enc : TypeId × Value → H) (F : Stop.Interp) :
    ReturnsInHanded {} Tryz.checked os 3 .any ((Rows.OpenSpec.upto Rows.evalCmdsSpec).preRow enc Tryz.prog Tryz.f3 Rows.evalCmdsUptoRow.domain false Rows.evalCmdsUptoRow.laid) (((Rows.OpenSpec.upto Rows.evalCmdsSpec).at F).post enc Tryz.prog Tryz.f3 false true false false) := by
  refine returnsInHanded_of_row (C := Tryz.checked) (s := Rows.OpenSpec.upto Rows.evalCmdsSpec) own started (by kernel_rfl) Tryz.func3
    ⟨World.laidAll Tryz.prog os seatLaid, fun _ _ => 0, ⟨#[], #[Value.agg #[.slice none 0 0, .string .empty, .string .empty], Value.agg #[.string .empty, .slice none 0 0, .string .empty, .int .i64 0, .int .i64 0, .slice none 0 0], Value.agg #[.int .i64 0, .string .empty, .string .empty, .string .empty, .string .empty], Value.slice none 0 0], []⟩, World.laidAll_os _ _ _, shaped os, (Input.okWide_of_okWideB (base := 0) (okInput os)).1, (Input.okWide_of_okWideB (okInput os)).2,
      OpenSpec.preRow_of_cond 12 (x := ([.agg [.nil, .lit (.string []), .lit (.string [])], .agg [.lit (.string []), .nil, .agg [.lit (.string []), .lit (.int .i64 0), .lit (.int .i64 0)], .nil], .agg [.lit (.int .i64 0), .lit (.string []), .lit (.string []), .lit (.string []), .lit (.string [])], .nil], [], [])) (by kernel_rfl) (by kernel_rfl) (fun k hk => by cases hk; kernel_rfl) (by kernel_rfl) (met os), by
        simp only [Assume.holds]
        exact ⟨by simp, by simp, fun _ => Modest.zero, by simp, by simp⟩⟩ ?_
  intro W base args ds gs before hval hW _ hcond _ hL _ _
  exact contract H enc W base args ds gs before hval hW (hcond _ rfl) hL

theorem fact0 : ((Rows.evalCmdsUptoRow).wf (OpenSpec.ofChange ((Rows.OpenSpec.upto Rows.evalCmdsSpec).bare))) = true := by kernel_rfl
theorem fact1 : (laidOutB Tryz.prog) = true := by kernel_rfl
theorem fact2 : (mapsRowed Tryz.prog) = true := by kernel_rfl
theorem fact3 : ((Tryz.f3).params.all ((Tryz.prog).readableRec ·)) = true := by kernel_rfl
theorem fact4 : (namedTie Tryz.prog (Rows.evalCmdsUptoRow).named ((Rows.OpenSpec.upto Rows.evalCmdsSpec).bare).vars) = true := by kernel_rfl
theorem fact5 : (((Rows.evalCmdsUptoRow).stops == [])) = true := by kernel_rfl
theorem fact6 : (((Tryz.prog).stops == [])) = true := by kernel_rfl
theorem fact7 : (((Rows.evalCmdsUptoRow).knobs == [])) = true := by kernel_rfl
theorem fact8 : (((Tryz.prog).stopKnobs == [])) = true := by kernel_rfl
theorem fact9 : (((Rows.evalCmdsUptoRow).inPlace == (Tryz.prog).inPlace 3)) = true := by kernel_rfl
theorem fact10 : (((Rows.evalCmdsUptoRow).unfollowed == (Tryz.prog).unfollowed 3)) = true := by kernel_rfl
theorem fact11 : (((Rows.evalCmdsUptoRow).recurses == (Tryz.prog).recurses 3)) = true := by kernel_rfl
theorem fact12 : (((Rows.evalCmdsUptoRow).named == (Tryz.prog).varsNamed 3)) = true := by kernel_rfl
theorem fact13 : (((Rows.evalCmdsUptoRow).maps == ((Tryz.f3).params.toList ++ ((Rows.OpenSpec.upto Rows.evalCmdsSpec).bare).plain.varTypes Tryz.prog).any ((Tryz.prog).mapsRec ·))) = true := by kernel_rfl
theorem fact14 : (((Rows.evalCmdsUptoRow).ifaces == ((Tryz.f3).params.toList ++ ((Rows.OpenSpec.upto Rows.evalCmdsSpec).bare).plain.varTypes Tryz.prog).any ((Tryz.prog).ifacesRec ·))) = true := by kernel_rfl
theorem fact15 : (((Rows.evalCmdsUptoRow).mapsOut == (Tryz.prog).mapsAmong (Tryz.f3).resultTypes.toList)) = true := by kernel_rfl
theorem fact16 : (((Rows.evalCmdsUptoRow).loops == ((Tryz.f3).params.toList ++ ((Rows.OpenSpec.upto Rows.evalCmdsSpec).bare).plain.varTypes Tryz.prog).any ((Tryz.prog).loopsFrom ·))) = true := by kernel_rfl
theorem fact17 : (((Rows.evalCmdsUptoRow).wideKeys == ((Tryz.f3).params.toList ++ ((Rows.OpenSpec.upto Rows.evalCmdsSpec).bare).plain.varTypes Tryz.prog ++ (Tryz.f3).resultTypes.toList).any ((Tryz.prog).wideKeysFrom ·))) = true := by kernel_rfl
theorem fact18 : (((Rows.OpenSpec.upto Rows.evalCmdsSpec).bare).vars.all ((Tryz.prog).varReadable ·)) = true := by kernel_rfl
theorem fact19 : ((Tryz.f3).resultTypes.all (fun t => (Tryz.prog).readableRec t && decide (t < (Tryz.prog).types.size))) = true := by kernel_rfl
theorem fact20 : (((Rows.evalCmdsUptoRow).ifacesOut == (Tryz.f3).resultTypes.toList.any ((Tryz.prog).ifacesRec ·))) = true := by kernel_rfl
theorem fact21 : (((Rows.evalCmdsUptoRow).loopsOut == (Tryz.f3).resultTypes.toList.any ((Tryz.prog).loopsFrom ·))) = true := by kernel_rfl
theorem fact22 : (((Rows.evalCmdsUptoRow).plainKeys == (Tryz.prog).plainKeys)) = true := by kernel_rfl
theorem fact23 : ((Rows.evalCmdsUptoRow).shortTexts.isNone) = true := by kernel_rfl
theorem fact24 : ((Tryz.prog).stopsHeard) = true := by kernel_rfl
theorem fact25 : ((Tryz.prog).mayEnter) = true := by kernel_rfl
theorem fact26 : (((Rows.evalCmdsUptoRow).lifted == (Tryz.prog).liftsFinal)) = true := by kernel_rfl
theorem fact27 : (((Tryz.prog).make == some (Rows.evalCmdsUptoRow).make)) = true := by kernel_rfl
theorem fact28 : (((Rows.evalCmdsUptoRow).kinds == (if (Rows.evalCmdsUptoRow).domain.isEmpty then [] else (Tryz.f3).params.toList.map fun t => match (Tryz.prog).underlying t with | some (.int k) => some k | _ => none))) = true := by kernel_rfl
theorem fact29 : (((Rows.evalCmdsUptoRow).pinned == (Rows.evalCmdsUptoRow).pinnedBy)) = true := by kernel_rfl
theorem fact30 : (((Rows.evalCmdsUptoRow).veiled == ((Tryz.f3).params.toList ++ ((Rows.OpenSpec.upto Rows.evalCmdsSpec).bare).plain.varTypes Tryz.prog ++ (Tryz.f3).resultTypes.toList).any ((Tryz.prog).veiledRec ·))) = true := by kernel_rfl
theorem fact31 : ((Rows.evalCmdsUptoRow).veiledFits Tryz.prog (Tryz.f3).params.toList ((Tryz.f3).params.toList ++ ((Rows.OpenSpec.upto Rows.evalCmdsSpec).bare).plain.varTypes Tryz.prog ++ (Tryz.f3).resultTypes.toList)) = true := by kernel_rfl
theorem facts : joinedFacts Tryz.prog 3 Tryz.f3 ((Rows.OpenSpec.upto Rows.evalCmdsSpec).bare) Rows.evalCmdsUptoRow = true := by
  unfold joinedFacts
  simp only [Bool.and_eq_true]
  exact ⟨⟨⟨⟨⟨⟨⟨⟨⟨⟨⟨⟨⟨⟨⟨⟨⟨⟨⟨⟨⟨⟨⟨⟨⟨⟨⟨⟨⟨⟨⟨fact0, fact1⟩, fact2⟩, fact3⟩, fact4⟩, fact5⟩, fact6⟩, fact7⟩, fact8⟩, fact9⟩, fact10⟩, fact11⟩, fact12⟩, fact13⟩, fact14⟩, fact15⟩, fact16⟩, fact17⟩, fact18⟩, fact19⟩, fact20⟩, fact21⟩, fact22⟩, fact23⟩, fact24⟩, fact25⟩, fact26⟩, fact27⟩, fact28⟩, fact29⟩, fact30⟩, fact31⟩
theorem fname : Tryz.pinned.checked.prog.funcNamed (Rows.evalCmdsUptoRow).func = some 3 := by kernel_rfl
theorem finst : (Tryz.f3).isInstance Tryz.prog (Rows.evalCmdsUptoRow).origin (Rows.evalCmdsUptoRow).targs := of_decide_eq_true (by kernel_rfl)
theorem fwrap : (Tryz.f3).isWrapper Tryz.prog (Rows.evalCmdsUptoRow).wrapper (Rows.evalCmdsUptoRow).mainSum := by unfold Func.isWrapper; first | (rw [if_pos (by decide +kernel)]; kernel_rfl) | (rw [if_neg (by decide +kernel)]; exact ⟨rfl, rfl⟩)
theorem row : Rows.EvalCmdsUptoSaid :=
  OpenClaim.holds_of_cond 3 Tryz.f3 rfl rfl rfl rfl rfl rfl rfl ⟨rfl, rfl, rfl, rfl, rfl⟩ rfl rfl rfl rfl rfl fname Tryz.func3 facts finst fwrap
    (fun os started H enc _ F => by rw [OpenClaim.pre_eq_preRow]; exact lifted os started H enc F)

theorem fwf : (Rows.evalCmdsUptoRow).wfByText (Rows.OpenSpec.upto Rows.evalCmdsSpec) = true := by kernel_rfl
theorem fmain : Tryz.pinned.checked.prog.mainIs = some ((Rows.evalCmdsUptoCard).stood.harness.1, (Rows.evalCmdsUptoCard).stood.harness.2.toList) := by kernel_rfl
theorem flooks : (Rows.evalCmdsUptoCard).stood.looks = Tryz.pinned.checked.prog.looks [] := by kernel_rfl
theorem fgoes : false = (Rows.evalCmdsUptoRow).goesBy Tryz.pinned.checked.prog := by kernel_rfl
theorem fstand : ([24, 30, 32, 33].all fun u => !Tryz.prog.wantsStandIn u) = true := by kernel_rfl
theorem said : Rows.EvalCmdsUptoCardSaid :=
  Claim7.holds_tied_plain_at .later [] _ _ _ _ row (fun _ h => by cases h) fwf (fun _ h => by cases h) evalCmdsUpto_row_tie rfl ⟨rfl, rfl⟩ fmain rfl
    (fun f fn hf hfn => by
      obtain rfl : f = 3 := (Option.some.inj (fname.symm.trans hf)).symm
      obtain rfl : fn = Tryz.f3 := (Option.some.inj (Tryz.func3.symm.trans hfn)).symm
      exact ⟨flooks, fun j t ht => by
        rw [Tryz.params3] at ht
        have hm : t ∈ [24, 30, 32, 33] := by simpa using Array.mem_of_getElem? ht
        exact (show Tryz.prog.wantsStandIn t = false by simpa using List.all_eq_true.1 fstand t hm)⟩)
    fgoes
end Go.Proofs.YtmfmdehfbpkgdaaGreatDoor.evalCmds
