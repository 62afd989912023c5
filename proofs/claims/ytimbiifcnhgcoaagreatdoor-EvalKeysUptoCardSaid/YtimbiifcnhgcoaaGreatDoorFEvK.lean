/- Closed facts. -/
import Derived.Test.YtimbiifcnhgcoaaGreatDoorMBulk
import Derived.Test.YtimbiifcnhgcoaaGreatDoorMGlob
namespace Go.Proofs.YtimbiifcnhgcoaaGreatDoor.evalKeys
open Go Go.Av Go.ChangeShapes Go.WideShapes Go.ChangeAt Go.RowKit
set_option linter.all false
set_option maxRecDepth 100000
theorem met(os:Os):laidMetH Tryz.prog pF ((World.laidAll Tryz.prog os pF).forCall (fun _ _=>0) ⟨#[], #[Value.agg #[.slice none 0 0, .string .empty, .string .empty, .slice none 0 0, .slice none 0 0, .int .i64 0, .slice none 0 0, .slice none 0 0]],[]⟩).memory:=by rw[MakeChecks.laidMetH_plain _ _ _ (by kernel_rfl)];exact laidMet_laidAll _ (by kernel_rfl) (by kernel_rfl)
theorem O7(os:Os):Input.okWideB Tryz.prog ((World.laidAll Tryz.prog os pF).forCall (fun _ _=>0) ⟨#[], #[Value.agg #[.slice none 0 0, .string .empty, .string .empty, .slice none 0 0, .slice none 0 0, .int .i64 0, .slice none 0 0, .slice none 0 0]],[]⟩) 3 ⟨#[], #[Value.agg #[.slice none 0 0, .string .empty, .string .empty, .slice none 0 0, .slice none 0 0, .int .i64 0, .slice none 0 0, .slice none 0 0]],[]⟩=true:=by kernel_rfl
theorem aBP(os:Os):((World.laidAll Tryz.prog os pF).forCall (fun _ _=>0) ⟨#[], #[Value.agg #[.slice none 0 0, .string .empty, .string .empty, .slice none 0 0, .slice none 0 0, .int .i64 0, .slice none 0 0, .slice none 0 0]],[]⟩).Shaped Tryz.prog:=World.shaped_of_ZipB (by kernel_rfl) (by kernel_rfl)
theorem aDO:((Rows.evalKeysUptoRow).wf (OpenSpec.ofChange ((Rows.OpenSpec.upto Rows.evalKeysSpec).bare)))=true:=by kernel_rfl
theorem aDP:(laidOutB Tryz.prog)=true:=by kernel_rfl
theorem aDQ:(mapsRowed Tryz.prog)=true:=by kernel_rfl
theorem aDR:((Tryz.f3).params.all ((Tryz.prog).readableRec ·))=true:=by kernel_rfl
theorem aDS:(namedTie Tryz.prog (Rows.evalKeysUptoRow).named ((Rows.OpenSpec.upto Rows.evalKeysSpec).bare).vars)=true:=by kernel_rfl
theorem aDT:(((Rows.evalKeysUptoRow).stops==[]))=true:=by kernel_rfl
theorem aDU:(((Tryz.prog).stops==[]))=true:=by kernel_rfl
theorem aDV:(((Rows.evalKeysUptoRow).knobs==[]))=true:=by kernel_rfl
theorem aDW:(((Tryz.prog).stopKnobs==[]))=true:=by kernel_rfl
theorem aDX:(((Rows.evalKeysUptoRow).inPlace==(Tryz.prog).inPlace 3))=true:=by kernel_rfl
theorem aBQ:(((Rows.evalKeysUptoRow).unfollowed==(Tryz.prog).unfollowed 3))=true:=by kernel_rfl
theorem aBR:(((Rows.evalKeysUptoRow).recurses==(Tryz.prog).recurses 3))=true:=by kernel_rfl
theorem aBS:(((Rows.evalKeysUptoRow).named==(Tryz.prog).varsNamed 3))=true:=by kernel_rfl
theorem aBT:(((Rows.evalKeysUptoRow).maps==((Tryz.f3).params.toList++((Rows.OpenSpec.upto Rows.evalKeysSpec).bare).plain.varTypes Tryz.prog).any ((Tryz.prog).mapsRec ·)))=true:=by kernel_rfl
theorem aBU:(((Rows.evalKeysUptoRow).ifaces==((Tryz.f3).params.toList++((Rows.OpenSpec.upto Rows.evalKeysSpec).bare).plain.varTypes Tryz.prog).any ((Tryz.prog).ifacesRec ·)))=true:=by kernel_rfl
theorem aBV:(((Rows.evalKeysUptoRow).mapsOut==(Tryz.prog).mapsAmong (Tryz.f3).resultTypes.toList))=true:=by kernel_rfl
theorem aBW:(((Rows.evalKeysUptoRow).loops==((Tryz.f3).params.toList++((Rows.OpenSpec.upto Rows.evalKeysSpec).bare).plain.varTypes Tryz.prog).any ((Tryz.prog).loopsFrom ·)))=true:=by kernel_rfl
theorem aBX:(((Rows.evalKeysUptoRow).wideKeys==((Tryz.f3).params.toList++((Rows.OpenSpec.upto Rows.evalKeysSpec).bare).plain.varTypes Tryz.prog++(Tryz.f3).resultTypes.toList).any ((Tryz.prog).wideKeysFrom ·)))=true:=by kernel_rfl
theorem aBY:(((Rows.OpenSpec.upto Rows.evalKeysSpec).bare).vars.all ((Tryz.prog).varReadable ·))=true:=by kernel_rfl
theorem aBZ:((Tryz.f3).resultTypes.all (fun t=>(Tryz.prog).readableRec t&&decide (t<(Tryz.prog).types.size)))=true:=by kernel_rfl
theorem aB0:(((Rows.evalKeysUptoRow).ifacesOut==(Tryz.f3).resultTypes.toList.any ((Tryz.prog).ifacesRec ·)))=true:=by kernel_rfl
theorem aB1:(((Rows.evalKeysUptoRow).loopsOut==(Tryz.f3).resultTypes.toList.any ((Tryz.prog).loopsFrom ·)))=true:=by kernel_rfl
theorem aB2:(((Rows.evalKeysUptoRow).plainKeys==(Tryz.prog).plainKeys))=true:=by kernel_rfl
theorem aB3:((Rows.evalKeysUptoRow).shortTexts.isNone)=true:=by kernel_rfl
theorem aB4:((Tryz.prog).stopsHeard)=true:=by kernel_rfl
theorem aB5:((Tryz.prog).mayEnter)=true:=by kernel_rfl
theorem aB6:(((Rows.evalKeysUptoRow).lifted==(Tryz.prog).liftsFinal))=true:=by kernel_rfl
theorem aB7:(((Tryz.prog).make==some (Rows.evalKeysUptoRow).make))=true:=by kernel_rfl
theorem aB8:(((Rows.evalKeysUptoRow).kinds==(if (Rows.evalKeysUptoRow).domain.isEmpty then [] else (Tryz.f3).params.toList.map fun t=>match (Tryz.prog).underlying t with|some (.int k)=>some k|_=>none)))=true:=by kernel_rfl
theorem aB9:(((Rows.evalKeysUptoRow).pinned==(Rows.evalKeysUptoRow).pinnedBy))=true:=by kernel_rfl
theorem aBa:(((Rows.evalKeysUptoRow).veiled==((Tryz.f3).params.toList++((Rows.OpenSpec.upto Rows.evalKeysSpec).bare).plain.varTypes Tryz.prog++(Tryz.f3).resultTypes.toList).any ((Tryz.prog).veiledRec ·)))=true:=by kernel_rfl
theorem aBb:((Rows.evalKeysUptoRow).veiledFits Tryz.prog (Tryz.f3).params.toList ((Tryz.f3).params.toList++((Rows.OpenSpec.upto Rows.evalKeysSpec).bare).plain.varTypes Tryz.prog++(Tryz.f3).resultTypes.toList))=true:=by kernel_rfl
theorem aDY:joinedFacts Tryz.prog 3 Tryz.f3 ((Rows.OpenSpec.upto Rows.evalKeysSpec).bare) Rows.evalKeysUptoRow=true:=by unfold joinedFacts;simp only[Bool.and_eq_true];exact⟨⟨⟨⟨⟨⟨⟨⟨⟨⟨⟨⟨⟨⟨⟨⟨⟨⟨⟨⟨⟨⟨⟨⟨⟨⟨⟨⟨⟨⟨⟨aDO,aDP⟩,aDQ⟩,aDR⟩,aDS⟩,aDT⟩,aDU⟩,aDV⟩,aDW⟩,aDX⟩,aBQ⟩,aBR⟩,aBS⟩,aBT⟩,aBU⟩,aBV⟩,aBW⟩,aBX⟩,aBY⟩,aBZ⟩,aB0⟩,aB1⟩,aB2⟩,aB3⟩,aB4⟩,aB5⟩,aB6⟩,aB7⟩,aB8⟩,aB9⟩,aBa⟩,aBb⟩
theorem VP:Tryz.pinned.checked.prog.funcNamed (Rows.evalKeysUptoRow).func=some 3:=by kernel_rfl
theorem aDZ:(Tryz.f3).isInstance Tryz.prog (Rows.evalKeysUptoRow).origin (Rows.evalKeysUptoRow).targs:=of_decide_eq_true (by kernel_rfl)
theorem aD0:(Tryz.f3).isWrapper Tryz.prog (Rows.evalKeysUptoRow).wrapper (Rows.evalKeysUptoRow).mainSum:=by unfold Func.isWrapper;first|(rw[if_pos (by decide+kernel)];kernel_rfl)|(rw[if_neg (by decide+kernel)];exact⟨rfl,rfl⟩)
theorem fwf:(Rows.evalKeysUptoRow).wfByText (Rows.OpenSpec.upto Rows.evalKeysSpec)=true:=by kernel_rfl
theorem aD1:Tryz.pinned.checked.prog.mainIs=some ((Rows.evalKeysUptoCard).stood.harness.1,(Rows.evalKeysUptoCard).stood.harness.2.toList):=by kernel_rfl
theorem aBc:(Rows.evalKeysUptoCard).stood.looks=Tryz.pinned.checked.prog.looks []:=by kernel_rfl
theorem aD2:false=(Rows.evalKeysUptoRow).goesBy Tryz.pinned.checked.prog:=by kernel_rfl
theorem aBd:([32].all fun u => !Tryz.prog.wantsStandIn u)=true:=by kernel_rfl
end Go.Proofs.YtimbiifcnhgcoaaGreatDoor.evalKeys
