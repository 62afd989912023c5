/-
  The law BindChecks: the statement.
-/
import Derived.Test.YtgghkkeejagfkaaGreatDoorMBulk
import Derived.Test.YtgghkkeejagfkaaGreatDoorMGlob
import Derived.Test.YtgghkkeejagfkaaGreatDoorGSBC17
namespace Go.Proofs.YtgghkkeejagfkaaGreatDoor.bindChecks
open Go Go.Av Go.ChangeShapes Go.WideShapes Go.ChangeAt Go.RowKit
set_option linter.unusedVariables false
set_option maxRecDepth 100000

theorem contract (H : Type) (enc : TypeId × Value → H) (W : World) (base : Nat) (args : Array Value) (ds gs : List (DataW H)) (before : List MemPlace)
    (hval : ∀ (j : Nat) t v, Tryz.f4.params[j]? = some t → args[j]? = some v → Value.okWide Tryz.prog W .any base t v)
    (hW : DataW.Whole enc Tryz.prog Tryz.f4.params.toList Rows.bindChecksSpec.vars false W args.toList ds gs before) (hk : Rows.uptoSmall H (ds ++ gs) = true) (hL : laidMetH Tryz.prog seatLaid W) :
    Calls Tryz.prog 4 args W fun e W' => ∃ v, e = .returned v ∧ Rows.bindChecksSpec.post enc Tryz.prog Tryz.f4 false true false false W args v W' := by
  have hW' := hW
  obtain ⟨p, q, hA0, hV, rfl, hfz, hnd⟩ := hW
  have hA : DataW.TrodAll enc Tryz.prog W 0 (fun _ => true) true Tryz.f4.params.toList args.toList ds p := hA0
  rw [Tryz.params4] at hA hval
  obtain ⟨v0, vs0, d0, ds0, p0, q0, hargs, rfl, rfl, h0, r0⟩ := trodAll_cons hA
  obtain ⟨rfl, rfl, rfl⟩ := trodAll_nil r0
  obtain rfl : args = #[v0] := by cases args; simp_all
  obtain ⟨rfl, rfl⟩ := trodVars_none hV
  obtain ⟨x0, r0, s0, k0⟩ := read_arg reads_sch (by kernel_rfl) (hval 0 24 v0 rfl rfl) h0
  clear hA0
  simp only [List.append_nil] at hW' hk
  have hb := small_bulk hk
  simp only [bulkAll] at hb
  refine (PFn.true_below (bindChecks x0 (by omega) k0) (glob_ok hL) (W := W) (args := #[v0]) ⟨v0, _, rfl, r0, rfl⟩).mono fun e W' ⟨he, hg⟩ => ?_
  subst he
  exact ⟨_, rfl, post_true (tb := 4) (by kernel_rfl) rfl rfl Tryz.underlying4 (by rw [Tryz.params4]; intro t ht; simp only [List.mem_cons, List.not_mem_nil, or_false] at ht; rcases ht with rfl <;> exact of_decide_eq_true (by kernel_rfl)) rfl hW' hg⟩

theorem met (os : Os) : laidMetH Tryz.prog seatLaid ((World.laidAll Tryz.prog os seatLaid).forCall (fun _ _ => 0) ⟨#[], #[Value.agg #[.slice none 0 0, .string .empty, .string .empty]], []⟩).memory := by
  rw [MakeChecks.laidMetH_plain _ _ _ (by kernel_rfl)]
  exact laidMet_laidAll _ (by kernel_rfl) (by kernel_rfl)
theorem okInput (os : Os) : Input.okWideB Tryz.prog ((World.laidAll Tryz.prog os seatLaid).forCall (fun _ _ => 0) ⟨#[], #[Value.agg #[.slice none 0 0, .string .empty, .string .empty]], []⟩) 4 ⟨#[], #[Value.agg #[.slice none 0 0, .string .empty, .string .empty]], []⟩ = true := by kernel_rfl
theorem shaped (os : Os) : ((World.laidAll Tryz.prog os seatLaid).forCall (fun _ _ => 0) ⟨#[], #[Value.agg #[.slice none 0 0, .string .empty, .string .empty]], []⟩).Shaped Tryz.prog := World.shaped_of_ZipB (by kernel_rfl) (by kernel_rfl)
set_option maxRecDepth 100000 in
theorem lifted (os : Os) (started : os.Started) (H : Type) (enc : TypeId × Value → H) (F : Stop.Interp) :
    ReturnsInHanded {} Tryz.checked os 4 .any ((Rows.OpenSpec.upto Rows.bindChecksSpec).preRow enc Tryz.prog Tryz.f4 Rows.bindChecksUptoRow.domain false Rows.bindChecksUptoRow.laid) (((Rows.OpenSpec.upto Rows.bindChecksSpec).at F).post enc Tryz.prog Tryz.f4 false true false false) := by
  refine returnsInHanded_of_row (C := Tryz.checked) (s := Rows.OpenSpec.upto Rows.bindChecksSpec) own started (by kernel_rfl) Tryz.func4
    ⟨World.laidAll Tryz.prog os seatLaid, fun _ _ => 0, ⟨#[], #[Value.agg #[.slice none 0 0, .string .empty, .string .empty]], []⟩, World.laidAll_os _ _ _, shaped os, (Input.okWide_of_okWideB (base := 0) (okInput os)).1, (Input.okWide_of_okWideB (okInput os)).2,
      OpenSpec.preRow_of_cond 12 (x := ([.agg [.nil, .lit (.string []), .lit (.string [])]], [], [])) (by kernel_rfl) (by kernel_rfl) (fun k hk => by cases hk; kernel_rfl) (by kernel_rfl) (met os), by
        simp only [Assume.holds]
        exact ⟨by simp, by simp, fun _ => Modest.zero, by simp, by simp⟩⟩ ?_
  intro W base args ds gs before hval hW _ hcond _ hL _ _
  exact contract H enc W base args ds gs before hval hW (hcond _ rfl) hL

theorem fact0 : ((Rows.bindChecksUptoRow).wf (OpenSpec.ofChange ((Rows.OpenSpec.upto Rows.bindChecksSpec).bare))) = true := by kernel_rfl
theorem fact1 : (laidOutB Tryz.prog) = true := by kernel_rfl
theorem fact2 : (mapsRowed Tryz.prog) = true := by kernel_rfl
theorem fact3 : ((Tryz.f4).params.all ((Tryz.prog).readableRec ·)) = true := by kernel_rfl
theorem fact4 : (namedTie Tryz.prog (Rows.bindChecksUptoRow).named ((Rows.OpenSpec.upto Rows.bindChecksSpec).bare).vars) = true := by kernel_rfl
theorem fact5 : (((Rows.bindChecksUptoRow).stops == [])) = true := by kernel_rfl
theorem fact6 : (((Tryz.prog).stops == [])) = true := by kernel_rfl
theorem fact7 : (((Rows.bindChecksUptoRow).knobs == [])) = true := by kernel_rfl
theorem fact8 : (((Tryz.prog).stopKnobs == [])) = true := by kernel_rfl
theorem fact9 : (((Rows.bindChecksUptoRow).inPlace == (Tryz.prog).inPlace 4)) = true := by kernel_rfl
theorem fact10 : (((Rows.bindChecksUptoRow).unfollowed == (Tryz.prog).unfollowed 4)) = true := by kernel_rfl
theorem fact11 : (((Rows.bindChecksUptoRow).recurses == (Tryz.prog).recurses 4)) = true := by kernel_rfl
theorem fact12 : (((Rows.bindChecksUptoRow).named == (Tryz.prog).varsNamed 4)) = true := by kernel_rfl
theorem fact13 : (((Rows.bindChecksUptoRow).maps == ((Tryz.f4).params.toList ++ ((Rows.OpenSpec.upto Rows.bindChecksSpec).bare).plain.varTypes Tryz.prog).any ((Tryz.prog).mapsRec ·))) = true := by kernel_rfl
theorem fact14 : (((Rows.bindChecksUptoRow).ifaces == ((Tryz.f4).params.toList ++ ((Rows.OpenSpec.upto Rows.bindChecksSpec).bare).plain.varTypes Tryz.prog).any ((Tryz.prog).ifacesRec ·))) = true := by kernel_rfl
theorem fact15 : (((Rows.bindChecksUptoRow).mapsOut == (Tryz.prog).mapsAmong (Tryz.f4).resultTypes.toList)) = true := by kernel_rfl
theorem fact16 : (((Rows.bindChecksUptoRow).loops == ((Tryz.f4).params.toList ++ ((Rows.OpenSpec.upto Rows.bindChecksSpec).bare).plain.varTypes Tryz.prog).any ((Tryz.prog).loopsFrom ·))) = true := by kernel_rfl
theorem fact17 : (((Rows.bindChecksUptoRow).wideKeys == ((Tryz.f4).params.toList ++ ((Rows.OpenSpec.upto Rows.bindChecksSpec).bare).plain.varTypes Tryz.prog ++ (Tryz.f4).resultTypes.toList).any ((Tryz.prog).wideKeysFrom ·))) = true := by kernel_rfl
theorem fact18 : (((Rows.OpenSpec.upto Rows.bindChecksSpec).bare).vars.all ((Tryz.prog).varReadable ·)) = true := by kernel_rfl
theorem fact19 : ((Tryz.f4).resultTypes.all (fun t => (Tryz.prog).readableRec t && decide (t < (Tryz.prog).types.size))) = true := by kernel_rfl
theorem fact20 : (((Rows.bindChecksUptoRow).ifacesOut == (Tryz.f4).resultTypes.toList.any ((Tryz.prog).ifacesRec ·))) = true := by kernel_rfl
theorem fact21 : (((Rows.bindChecksUptoRow).loopsOut == (Tryz.f4).resultTypes.toList.any ((Tryz.prog).loopsFrom ·))) = true := by kernel_rfl
theorem fact22 : (((Rows.bindChecksUptoRow).plainKeys == (Tryz.prog).plainKeys)) = true := by kernel_rfl
theorem fact23 : ((Rows.bindChecksUptoRow).shortTexts.isNone) = true := by kernel_rfl
theorem fact24 : ((Tryz.prog).stopsHeard) = true := by kernel_rfl
theorem fact25 : ((Tryz.prog).mayEnter) = true := by kernel_rfl
theorem fact26 : (((Rows.bindChecksUptoRow).lifted == (Tryz.prog).liftsFinal)) = true := by kernel_rfl
theorem fact27 : (((Tryz.prog).make == some (Rows.bindChecksUptoRow).make)) = true := by kernel_rfl
theorem fact28 : (((Rows.bindChecksUptoRow).kinds == (if (Rows.bindChecksUptoRow).domain.isEmpty then [] else (Tryz.f4).params.toList.map fun t => match (Tryz.prog).underlying t with | some (.int k) => some k | _ => none))) = true := by kernel_rfl
theorem fact29 : (((Rows.bindChecksUptoRow).pinned == (Rows.bindChecksUptoRow).pinnedBy)) = true := by kernel_rfl
theorem fact30 : (((Rows.bindChecksUptoRow).veiled == ((Tryz.f4).params.toList ++ ((Rows.OpenSpec.upto Rows.bindChecksSpec).bare).plain.varTypes Tryz.prog ++ (Tryz.f4).resultTypes.toList).any ((Tryz.prog).veiledRec ·))) = true := by kernel_rfl
theorem fact31 : ((Rows.bindChecksUptoRow).veiledFits Tryz.prog (Tryz.f4).params.toList ((Tryz.f4).params.toList ++ ((Rows.OpenSpec.upto Rows.bindChecksSpec).bare).plain.varTypes Tryz.prog ++ (Tryz.f4).resultTypes.toList)) = true := by kernel_rfl
theorem facts : joinedFacts Tryz.prog 4 Tryz.f4 ((Rows.OpenSpec.upto Rows.bindChecksSpec).bare) Rows.bindChecksUptoRow = true := by
  unfold joinedFacts
  simp only [Bool.and_eq_true]
  exact ⟨⟨⟨⟨⟨⟨⟨⟨⟨⟨⟨⟨⟨⟨⟨⟨⟨⟨⟨⟨⟨⟨⟨⟨⟨⟨⟨⟨⟨⟨⟨fact0, fact1⟩, fact2⟩, fact3⟩, fact4⟩, fact5⟩, fact6⟩, fact7⟩, fact8⟩, fact9⟩, fact10⟩, fact11⟩, fact12⟩, fact13⟩, fact14⟩, fact15⟩, fact16⟩, fact17⟩, fact18⟩, fact19⟩, fact20⟩, fact21⟩, fact22⟩, fact23⟩, fact24⟩, fact25⟩, fact26⟩, fact27⟩, fact28⟩, fact29⟩, fact30⟩, fact31⟩
theorem fname : Tryz.pinned.checked.prog.funcNamed (Rows.bindChecksUptoRow).func = some 4 := by kernel_rfl
theorem finst : (Tryz.f4).isInstance Tryz.prog (Rows.bindChecksUptoRow).origin (Rows.bindChecksUptoRow).targs := of_decide_eq_true (by kernel_rfl)
theorem fwrap : (Tryz.f4).isWrapper Tryz.prog (Rows.bindChecksUptoRow).wrapper (Rows.bindChecksUptoRow).mainSum := by unfold Func.isWrapper; first | (rw [if_pos (by decide +kernel)]; kernel_rfl) | (rw [if_neg (by decide +kernel)]; exact ⟨rfl, rfl⟩)
theorem row : Rows.BindChecksUptoSaid :=
  OpenClaim.holds_of_cond 4 Tryz.f4 rfl rfl rfl rfl rfl rfl rfl ⟨rfl, rfl, rfl, rfl, rfl⟩ rfl rfl rfl rfl rfl fname Tryz.func4 facts finst fwrap
    (fun os started H enc _ F => by rw [OpenClaim.pre_eq_preRow]; exact lifted os started H enc F)

theorem fwf : (Rows.bindChecksUptoRow).wfByText (Rows.OpenSpec.upto Rows.bindChecksSpec) = true := by kernel_rfl
theorem fmain : Tryz.pinned.checked.prog.mainIs = some ((Rows.bindChecksUptoCard).stood.harness.1, (Rows.bindChecksUptoCard).stood.harness.2.toList) := by kernel_rfl
theorem flooks : (Rows.bindChecksUptoCard).stood.looks = Tryz.pinned.checked.prog.looks [] := by kernel_rfl
theorem fgoes : false = (Rows.bindChecksUptoRow).goesBy Tryz.pinned.checked.prog := by kernel_rfl
theorem fstand : ([24].all fun u => !Tryz.prog.wantsStandIn u) = true := by kernel_rfl
theorem said : Rows.BindChecksUptoCardSaid :=
  Claim7.holds_tied_plain_at .later [] _ _ _ _ row (fun _ h => by cases h) fwf (fun _ h => by cases h) bindChecksUpto_row_tie rfl ⟨rfl, rfl⟩ fmain rfl
    (fun f fn hf hfn => by
      obtain rfl : f = 4 := (Option.some.inj (fname.symm.trans hf)).symm
      obtain rfl : fn = Tryz.f4 := (Option.some.inj (Tryz.func4.symm.trans hfn)).symm
      exact ⟨flooks, fun j t ht => by
        rw [Tryz.params4] at ht
        have hm : t ∈ [24] := by simpa using Array.mem_of_getElem? ht
        exact (show Tryz.prog.wantsStandIn t = false by simpa using List.all_eq_true.1 fstand t hm)⟩)
    fgoes
end Go.Proofs.YtgghkkeejagfkaaGreatDoor.bindChecks
