/-
  The table of a program's types: an entry out of closed facts.
-/
import Derived.Test.YtajddgpkflbnaaaAvDefer
set_option linter.unusedVariables false
namespace Go.Av
open Go
set_option linter.unusedSectionVars false
variable [Globals]

def fieldsOkB (P : Program) : TypeDesc → Bool
  | .struct fs => fs.toList.all fun f => (P.info? f.type).isSome && (P.underlying f.type).isSome
  | _ => true

theorem tok_mk {P : Program} {t : TypeId} {ti : TI} {d : TypeDesc} (z : Value) (h1 : (P.info? t).map (fun i => (i.size, i.bytes, i.zero)) = some (ti.size, ti.bytes, some z)) (h2 : P.underlying t = some d) (h3 : kindOf d = ti.kind) (h4 : elemOf' d = ti.elem)
    (h5 : isAgg' d = ti.agg) (h6 : ofConst z = ti.zero) (h7 : z.cells.size = ti.size) (h8 : fieldsOf P d = ti.fields) (h9 : (z.cells.toList.all fun v => v.oneCell') = true) (h10 : fieldsOkB P d = true) : TOk P t ti := by
  cases hi : P.info? t with
  | none => rw [hi] at h1; cases h1
  | some info =>
    rw [hi] at h1
    simp only [Option.map_some, Option.some.injEq, Prod.mk.injEq] at h1
    refine ⟨⟨info, d, z, hi, h2, h3, h4, h5, h1.1, h1.2.1, h1.2.2, h6, h7, h8, h9, fun fs e f hf => ?_⟩⟩
    subst e
    have := List.all_eq_true.1 h10 f hf
    simpa using this
end Go.Av
