/- The law EvalReads: the statement. -/
import Derived.Test.YtdodieljpcfpcaaGreatDoorFEvR
import Derived.Test.YtdodieljpcfpcaaGreatDoorGEvR30
namespace Go.Proofs.YtdodieljpcfpcaaGreatDoor.evalReads
open Go Go.Av Go.ChangeShapes Go.WideShapes Go.ChangeAt Go.RowKit
set_option linter.all false
set_option maxRecDepth 100000
theorem Ta(H:Type)(enc:TypeId×Value->H)(W:World)(base:Nat)(args:Array Value)(ds gs:List (DataW H))(before:List MemPlace)
  (hval:∀(j:Nat) t v,Tryz.f3.params[j]? =some t->args[j]? =some v->Value.okWide Tryz.prog W .any base t v)
  (hW:DataW.Whole enc Tryz.prog Tryz.f3.params.toList Rows.evalReadsSpec.vars false W args.toList ds gs before) (hk:Rows.uptoSmall H (ds++gs)=true) (hL:laidMetH Tryz.prog qH W):
  Calls Tryz.prog 3 args W fun e W'=> ∃v,e = .returned v/\Rows.evalReadsSpec.post enc Tryz.prog Tryz.f3 false true false false W args v W':= by
 have hW':= hW;obtain⟨p,q,hA0,hV,rfl,hfz,hnd⟩:=hW;have hA:DataW.TrodAll enc Tryz.prog W 0 (fun _=>true) true Tryz.f3.params.toList args.toList ds p:=hA0;rw[Tryz.params3]at hA hval;obtain⟨v0,vs0,d0,ds0,p0,q0,hargs,rfl,rfl,h0,r0⟩:=trodAll_cons hA;obtain⟨rfl,rfl,rfl⟩:=trodAll_nil r0;obtain rfl:args = #[v0]:=by cases args;simp_all
 obtain⟨rfl,rfl⟩:=trodVars_none hV;obtain⟨x0,r0,s0,k0⟩:=Qz MY (by kernel_rfl) (hval 0 32 v0 rfl rfl) h0;clear hA0;simp only[List.append_nil]at hW' hk;have hb:=NC hk;simp only[lJ]at hb;refine(Hs (evalReads x0 (BS.of k0 om)) (UZ hL) (W:=W) (args := #[v0]) ⟨v0,_,rfl,r0,rfl⟩).mono fun e W' ⟨he,hg⟩=> ?_
 subst he;exact⟨_,rfl,O5 (tb:=4) (by kernel_rfl) rfl rfl Tryz.underlying4 (by rw[Tryz.params3];intro t ht;simp only[List.mem_cons,List.not_mem_nil,or_false]at ht;rcases ht with rfl<;>exact of_decide_eq_true (by kernel_rfl)) rfl hW' hg⟩
theorem lifted(os:Os)(started:os.Started)(H:Type)(enc:TypeId×Value->H)(F:Stop.Interp):
  ReturnsInHanded {} Tryz.checked os 3 .any ((Rows.OpenSpec.upto Rows.evalReadsSpec).preRow enc Tryz.prog Tryz.f3 Rows.evalReadsUptoRow.domain false Rows.evalReadsUptoRow.laid) (((Rows.OpenSpec.upto Rows.evalReadsSpec).at F).post enc Tryz.prog Tryz.f3 false true false false):=by
 refine returnsInHanded_of_row (C:=Tryz.checked) (s:=Rows.OpenSpec.upto Rows.evalReadsSpec) own started (by kernel_rfl) Tryz.func3
  ⟨World.laidAll Tryz.prog os qH,fun _ _=>0,⟨#[], #[Value.agg #[.slice none 0 0, .string .empty, .string .empty, .slice none 0 0, .slice none 0 0, .int .i64 0, .slice none 0 0, .slice none 0 0]],[]⟩,World.laidAll_os _ _ _,aAz os,(Input.okWide_of_okWideB (base:=0) (OY os)).1,(Input.okWide_of_okWideB (OY os)).2,
   OpenSpec.preRow_of_cond 12 (x:=([.agg [.agg [.nil, .lit (.string []), .lit (.string [])], .agg [.nil, .nil], .lit (.int .i64 0), .nil, .nil]],[],[])) (by kernel_rfl) (by kernel_rfl) (fun k hk=>by cases hk;kernel_rfl) (by kernel_rfl) (met os),by simp only[Assume.holds];exact⟨by simp,by simp,fun _=>Modest.zero,by simp,by simp⟩⟩ ?_
 intro W base args ds gs before hval hW _ hcond _ hL _ _;exact Ta H enc W base args ds gs before hval hW (hcond _ rfl) hL
theorem row:Rows.EvalReadsUptoSaid:=
 OpenClaim.holds_of_cond 3 Tryz.f3 rfl rfl rfl rfl rfl rfl rfl ⟨rfl,rfl,rfl,rfl,rfl⟩ rfl rfl rfl rfl rfl Vz Tryz.func3 aDK aDL aDM
  (fun os started H enc _ F=>by rw[OpenClaim.pre_eq_preRow];exact lifted os started H enc F)
theorem said:Rows.EvalReadsUptoCardSaid:=
 Claim7.holds_tied_plain_at .later [] _ _ _ _ row (fun _ h=>by cases h) fwf (fun _ h=>by cases h) evalReadsUpto_row_tie rfl ⟨rfl,rfl⟩ aDN rfl
  (fun f fn hf hfn=>by
   obtain rfl:f=3:=(Option.some.inj (Vz.symm.trans hf)).symm
   obtain rfl:fn=Tryz.f3:=(Option.some.inj (Tryz.func3.symm.trans hfn)).symm
   exact⟨aBW,fun j t ht=>by
    rw[Tryz.params3]at ht
    have hm:t∈[32]:=by simpa using Array.mem_of_getElem? ht
    exact(show Tryz.prog.wantsStandIn t=false by simpa using List.all_eq_true.1 aBX t hm)⟩)
  aDO
end Go.Proofs.YtdodieljpcfpcaaGreatDoor.evalReads
