/- Closed facts. -/
import Derived.Test.YtdodieljpcfpcaaGreatDoorMBulk
import Derived.Test.YtdodieljpcfpcaaGreatDoorMGlob
namespace Go.Proofs.YtdodieljpcfpcaaGreatDoor.evalReads
open Go Go.Av Go.ChangeShapes Go.WideShapes Go.ChangeAt Go.RowKit
set_option linter.all false
set_option maxRecDepth 100000
theorem met(os:Os):laidMetH Tryz.prog qH ((World.laidAll Tryz.prog os qH).forCall (fun _ _=>0) ⟨#[], #[Value.agg #[.slice none 0 0, .string .empty, .string .empty, .slice none 0 0, .slice none 0 0, .int .i64 0, .slice none 0 0, .slice none 0 0]],[]⟩).memory:=by rw[MakeChecks.laidMetH_plain _ _ _ (by kernel_rfl)];exact laidMet_laidAll _ (by kernel_rfl) (by kernel_rfl)
theorem OY(os:Os):Input.okWideB Tryz.prog ((World.laidAll Tryz.prog os qH).forCall (fun _ _=>0) ⟨#[], #[Value.agg #[.slice none 0 0, .string .empty, .string .empty, .slice none 0 0, .slice none 0 0, .int .i64 0, .slice none 0 0, .slice none 0 0]],[]⟩) 3 ⟨#[], #[Value.agg #[.slice none 0 0, .string .empty, .string .empty, .slice none 0 0, .slice none 0 0, .int .i64 0, .slice none 0 0, .slice none 0 0]],[]⟩=true:=by kernel_rfl
theorem aAz(os:Os):((World.laidAll Tryz.prog os qH).forCall (fun _ _=>0) ⟨#[], #[Value.agg #[.slice none 0 0, .string .empty, .string .empty, .slice none 0 0, .slice none 0 0, .int .i64 0, .slice none 0 0, .slice none 0 0]],[]⟩).Shaped Tryz.prog:=World.shaped_of_ZipB (by kernel_rfl) (by kernel_rfl)
theorem aDA:((Rows.evalReadsUptoRow).wf (OpenSpec.ofChange ((Rows.OpenSpec.upto Rows.evalReadsSpec).bare)))=true:=by kernel_rfl
theorem aDB:(laidOutB Tryz.prog)=true:=by kernel_rfl
theorem aDC:(mapsRowed Tryz.prog)=true:=by kernel_rfl
theorem aDD:((Tryz.f3).params.all ((Tryz.prog).readableRec ·))=true:=by kernel_rfl
theorem aDE:(namedTie Tryz.prog (Rows.evalReadsUptoRow).named ((Rows.OpenSpec.upto Rows.evalReadsSpec).bare).vars)=true:=by kernel_rfl
theorem aDF:(((Rows.evalReadsUptoRow).stops==[]))=true:=by kernel_rfl
theorem aDG:(((Tryz.prog).stops==[]))=true:=by kernel_rfl
theorem aDH:(((Rows.evalReadsUptoRow).knobs==[]))=true:=by kernel_rfl
theorem aDI:(((Tryz.prog).stopKnobs==[]))=true:=by kernel_rfl
theorem aDJ:(((Rows.evalReadsUptoRow).inPlace==(Tryz.prog).inPlace 3))=true:=by kernel_rfl
theorem aBA:(((Rows.evalReadsUptoRow).unfollowed==(Tryz.prog).unfollowed 3))=true:=by kernel_rfl
theorem aBB:(((Rows.evalReadsUptoRow).recurses==(Tryz.prog).recurses 3))=true:=by kernel_rfl
theorem aBC:(((Rows.evalReadsUptoRow).named==(Tryz.prog).varsNamed 3))=true:=by kernel_rfl
theorem aBD:(((Rows.evalReadsUptoRow).maps==((Tryz.f3).params.toList++((Rows.OpenSpec.upto Rows.evalReadsSpec).bare).plain.varTypes Tryz.prog).any ((Tryz.prog).mapsRec ·)))=true:=by kernel_rfl
theorem aBE:(((Rows.evalReadsUptoRow).ifaces==((Tryz.f3).params.toList++((Rows.OpenSpec.upto Rows.evalReadsSpec).bare).plain.varTypes Tryz.prog).any ((Tryz.prog).ifacesRec ·)))=true:=by kernel_rfl
theorem aBF:(((Rows.evalReadsUptoRow).mapsOut==(Tryz.prog).mapsAmong (Tryz.f3).resultTypes.toList))=true:=by kernel_rfl
theorem aBG:(((Rows.evalReadsUptoRow).loops==((Tryz.f3).params.toList++((Rows.OpenSpec.upto Rows.evalReadsSpec).bare).plain.varTypes Tryz.prog).any ((Tryz.prog).loopsFrom ·)))=true:=by kernel_rfl
theorem aBH:(((Rows.evalReadsUptoRow).wideKeys==((Tryz.f3).params.toList++((Rows.OpenSpec.upto Rows.evalReadsSpec).bare).plain.varTypes Tryz.prog++(Tryz.f3).resultTypes.toList).any ((Tryz.prog).wideKeysFrom ·)))=true:=by kernel_rfl
theorem aBI:(((Rows.OpenSpec.upto Rows.evalReadsSpec).bare).vars.all ((Tryz.prog).varReadable ·))=true:=by kernel_rfl
theorem aBJ:((Tryz.f3).resultTypes.all (fun t=>(Tryz.prog).readableRec t&&decide (t<(Tryz.prog).types.size)))=true:=by kernel_rfl
theorem aBK:(((Rows.evalReadsUptoRow).ifacesOut==(Tryz.f3).resultTypes.toList.any ((Tryz.prog).ifacesRec ·)))=true:=by kernel_rfl
theorem aBL:(((Rows.evalReadsUptoRow).loopsOut==(Tryz.f3).resultTypes.toList.any ((Tryz.prog).loopsFrom ·)))=true:=by kernel_rfl
theorem aBM:(((Rows.evalReadsUptoRow).plainKeys==(Tryz.prog).plainKeys))=true:=by kernel_rfl
theorem aBN:((Rows.evalReadsUptoRow).shortTexts.isNone)=true:=by kernel_rfl
theorem aBO:((Tryz.prog).stopsHeard)=true:=by kernel_rfl
theorem aBP:((Tryz.prog).mayEnter)=true:=by kernel_rfl
theorem aBQ:(((Rows.evalReadsUptoRow).lifted==(Tryz.prog).liftsFinal))=true:=by kernel_rfl
theorem aBR:(((Tryz.prog).make==some (Rows.evalReadsUptoRow).make))=true:=by kernel_rfl
theorem aBS:(((Rows.evalReadsUptoRow).kinds==(if (Rows.evalReadsUptoRow).domain.isEmpty then [] else (Tryz.f3).params.toList.map fun t=>match (Tryz.prog).underlying t with|some (.int k)=>some k|_=>none)))=true:=by kernel_rfl
theorem aBT:(((Rows.evalReadsUptoRow).pinned==(Rows.evalReadsUptoRow).pinnedBy))=true:=by kernel_rfl
theorem aBU:(((Rows.evalReadsUptoRow).veiled==((Tryz.f3).params.toList++((Rows.OpenSpec.upto Rows.evalReadsSpec).bare).plain.varTypes Tryz.prog++(Tryz.f3).resultTypes.toList).any ((Tryz.prog).veiledRec ·)))=true:=by kernel_rfl
theorem aBV:((Rows.evalReadsUptoRow).veiledFits Tryz.prog (Tryz.f3).params.toList ((Tryz.f3).params.toList++((Rows.OpenSpec.upto Rows.evalReadsSpec).bare).plain.varTypes Tryz.prog++(Tryz.f3).resultTypes.toList))=true:=by kernel_rfl
theorem aDK:joinedFacts Tryz.prog 3 Tryz.f3 ((Rows.OpenSpec.upto Rows.evalReadsSpec).bare) Rows.evalReadsUptoRow=true:=by unfold joinedFacts;simp only[Bool.and_eq_true];exact⟨⟨⟨⟨⟨⟨⟨⟨⟨⟨⟨⟨⟨⟨⟨⟨⟨⟨⟨⟨⟨⟨⟨⟨⟨⟨⟨⟨⟨⟨⟨aDA,aDB⟩,aDC⟩,aDD⟩,aDE⟩,aDF⟩,aDG⟩,aDH⟩,aDI⟩,aDJ⟩,aBA⟩,aBB⟩,aBC⟩,aBD⟩,aBE⟩,aBF⟩,aBG⟩,aBH⟩,aBI⟩,aBJ⟩,aBK⟩,aBL⟩,aBM⟩,aBN⟩,aBO⟩,aBP⟩,aBQ⟩,aBR⟩,aBS⟩,aBT⟩,aBU⟩,aBV⟩
theorem Vz:Tryz.pinned.checked.prog.funcNamed (Rows.evalReadsUptoRow).func=some 3:=by kernel_rfl
theorem aDL:(Tryz.f3).isInstance Tryz.prog (Rows.evalReadsUptoRow).origin (Rows.evalReadsUptoRow).targs:=of_decide_eq_true (by kernel_rfl)
theorem aDM:(Tryz.f3).isWrapper Tryz.prog (Rows.evalReadsUptoRow).wrapper (Rows.evalReadsUptoRow).mainSum:=by unfold Func.isWrapper;first|(rw[if_pos (by decide+kernel)];kernel_rfl)|(rw[if_neg (by decide+kernel)];exact⟨rfl,rfl⟩)
theorem fwf:(Rows.evalReadsUptoRow).wfByText (Rows.OpenSpec.upto Rows.evalReadsSpec)=true:=by kernel_rfl
theorem aDN:Tryz.pinned.checked.prog.mainIs=some ((Rows.evalReadsUptoCard).stood.harness.1,(Rows.evalReadsUptoCard).stood.harness.2.toList):=by kernel_rfl
theorem aBW:(Rows.evalReadsUptoCard).stood.looks=Tryz.pinned.checked.prog.looks []:=by kernel_rfl
theorem aDO:false=(Rows.evalReadsUptoRow).goesBy Tryz.pinned.checked.prog:=by kernel_rfl
theorem aBX:([32].all fun u => !Tryz.prog.wantsStandIn u)=true:=by kernel_rfl
end Go.Proofs.YtdodieljpcfpcaaGreatDoor.evalReads
