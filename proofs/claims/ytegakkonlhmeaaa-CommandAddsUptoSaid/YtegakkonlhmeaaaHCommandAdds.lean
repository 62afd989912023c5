/-
  The law CommandAdds: the statement.
-/
import Derived.Test.YtegakkonlhmeaaaMBulk
import Derived.Test.YtegakkonlhmeaaaGPA5
namespace Go.Proofs.Ytegakkonlhmeaaa.commandAdds
open Go Go.Av Go.ChangeShapes Go.WideShapes Go.ChangeAt Go.RowKit
set_option linter.unusedVariables false
set_option maxRecDepth 100000

theorem contract (H : Type) (enc : TypeId × Value → H) (W : World) (base : Nat) (args : Array Value) (ds gs : List (DataW H)) (before : List MemPlace)
    (hval : ∀ (j : Nat) t v, Try.f3.params[j]? = some t → args[j]? = some v → Value.okWide Try.prog W .any base t v)
    (hW : DataW.Whole enc Try.prog Try.f3.params.toList Rows.commandAddsSpec.vars false W args.toList ds gs before) (hk : Rows.uptoSmall H (ds ++ gs) = true) :
    Calls Try.prog 3 args W fun e W' => ∃ v, e = .returned v ∧ Rows.commandAddsSpec.post enc Try.prog Try.f3 false true false false W args v W' := by
  have hW' := hW
  obtain ⟨p, q, hA0, hV, rfl, hfz, hnd⟩ := hW
  have hA : DataW.TrodAll enc Try.prog W 0 (fun _ => true) true Try.f3.params.toList args.toList ds p := hA0
  rw [Try.params3] at hA hval
  obtain ⟨v0, vs0, d0, ds0, p0, q0, hargs, rfl, rfl, h0, r0⟩ := trodAll_cons hA
  obtain ⟨v1, vs1, d1, ds1, p1, q1, rfl, rfl, rfl, h1, r1⟩ := trodAll_cons r0
  obtain ⟨v2, vs2, d2, ds2, p2, q2, rfl, rfl, rfl, h2, r2⟩ := trodAll_cons r1
  obtain ⟨v3, vs3, d3, ds3, p3, q3, rfl, rfl, rfl, h3, r3⟩ := trodAll_cons r2
  obtain ⟨rfl, rfl, rfl⟩ := trodAll_nil r3
  obtain rfl : args = #[v0, v1, v2, v3] := by cases args; simp_all
  obtain ⟨rfl, rfl⟩ := trodVars_none hV
  obtain ⟨x0, r0, s0, k0⟩ := read_arg reads_tbls (by kernel_rfl) (hval 0 22 v0 rfl rfl) h0
  obtain ⟨x1, r1, s1, k1⟩ := read_arg reads_i64 (by kernel_rfl) (hval 1 2 v1 rfl rfl) h1
  obtain ⟨x2, r2, s2, k2⟩ := read_arg reads_i64 (by kernel_rfl) (hval 2 2 v2 rfl rfl) h2
  obtain ⟨x3, r3, s3, k3⟩ := read_arg reads_i64 (by kernel_rfl) (hval 3 2 v3 rfl rfl) h3
  clear hA0
  simp only [List.append_nil] at hW' hk
  have hb := small_bulk hk
  simp only [bulkAll] at hb
  refine (PFn.true_below (commandAdds x0 x1 x2 x3 (by unfold tabSize; omega)) (⟨fun _ h => absurd h List.not_mem_nil, fun _ h => absurd h List.not_mem_nil⟩) (W := W) (args := #[v0, v1, v2, v3]) ⟨v0, _, rfl, r0, ⟨v1, _, rfl, r1, ⟨v2, _, rfl, r2, ⟨v3, _, rfl, r3, rfl⟩⟩⟩⟩).mono fun e W' ⟨he, hg⟩ => ?_
  subst he
  exact ⟨_, rfl, post_true (tb := 4) (by kernel_rfl) rfl rfl Try.underlying4 (by rw [Try.params3]; intro t ht; simp only [List.mem_cons, List.not_mem_nil, or_false] at ht; rcases ht with rfl | rfl | rfl | rfl <;> exact of_decide_eq_true (by kernel_rfl)) rfl hW' hg⟩

set_option maxRecDepth 100000 in
theorem lifted (os : Os) (started : os.Started) (H : Type) (enc : TypeId × Value → H) (F : Stop.Interp) :
    ReturnsInHanded {} Try.checked os 3 .any ((Rows.OpenSpec.upto Rows.commandAddsSpec).pre6 enc Try.prog Try.f3 Rows.commandAddsUptoRow.domain false) (((Rows.OpenSpec.upto Rows.commandAddsSpec).at F).post enc Try.prog Try.f3 false true false false) := by
  refine returnsInHanded_of_cond (C := Try.checked) (s := Rows.OpenSpec.upto Rows.commandAddsSpec) (k := Rows.uptoSmall) rfl own started (by kernel_rfl) Try.func3
    (OpenSpec.witness (enc := enc) (C := Try.checked) (s := Rows.OpenSpec.upto Rows.commandAddsSpec) (k := Rows.uptoSmall) rfl false ⟨#[], #[Value.slice none 0 0, Value.int .i64 0, Value.int .i64 0, Value.int .i64 0], []⟩ 12 (by kernel_rfl) (by kernel_rfl) (by kernel_rfl)
      (x := ([.nil, .lit (.int .i64 0), .lit (.int .i64 0), .lit (.int .i64 0)], [], [])) (by kernel_rfl) rfl (by kernel_rfl)) ?_
  intro W base args ds gs before hval hW _ hk _
  exact contract H enc W base args ds gs before hval hW hk

theorem said : Rows.CommandAddsUptoSaid :=
  OpenClaim.holds_of_cond 3 Try.f3 rfl rfl rfl rfl rfl rfl rfl ⟨rfl, rfl, rfl, rfl, rfl⟩ rfl rfl rfl rfl rfl (by kernel_rfl) Try.func3 (by kernel_rfl)
    (of_decide_eq_true (by kernel_rfl)) (by unfold Func.isWrapper; first | (rw [if_pos (by decide +kernel)]; kernel_rfl) | (rw [if_neg (by decide +kernel)]; exact ⟨rfl, rfl⟩))
    (fun os started H enc _ F => lifted os started H enc F)
end Go.Proofs.Ytegakkonlhmeaaa.commandAdds
