/-
  Contracts whose result is turned at the end.
-/
import Derived.Test.YtajddgpkflbnaaaAvRen3
set_option linter.unusedVariables false
namespace Go.Av
open Go
set_option linter.unusedSectionVars false
variable [Globals]

theorem AFn.turned {P : Program} {f : FuncId} {args : List AV} {σ σ2 : St} {v2 : AV} (h : AFn P f args σ (fun e σ1 => ∃ v, e = .ret v ∧ Turn σ1 v σ2 v2)) : AFn P f args σ (fun e σ1 => e = .ret v2 ∧ σ1 = σ2) :=
  ⟨h.1, fun g w vals hi hl => (h.2 g w vals hi hl).mono fun e w' ⟨g', σ', x, h1, h2, h3, v, e1, h4⟩ => by
    subst e1
    obtain ⟨u, rfl, hu⟩ := h3
    obtain ⟨g2, k1, k2, k3⟩ := h4 g' w' u h2 hu
    exact ⟨g2, σ2, .ret v2, h1.trans k1, k2, ⟨u, rfl, k3⟩, rfl, rfl⟩⟩

/-- More is dropped: objects and tokens at the end that nothing refers to; the ghost of the function's begin has none of them. -/
theorem AFn.dropped {P : Program} {f : FuncId} {args : List AV} {σ : St} {post : AEnd → St → Prop} (h : AFn P f args σ (fun e σ1 => ∃ v nB mT, e = .ret v ∧ σ.B.length ≤ nB ∧ σ.T.length ≤ mT ∧ v.low nB mT = true ∧ belowB nB mT (σ1.B.take nB) = true ∧ belowT nB mT (σ1.T.take mT) = true ∧ post (.ret v) ⟨σ1.B.take nB, σ1.T.take mT⟩)) : AFn P f args σ post :=
  ⟨h.1, fun g w vals hi hl => (h.2 g w vals hi hl).mono fun e w' ⟨g', σ', x, h1, h2, h3, v, nB, mT, e1, l1, l2, h4, h5, h6, h7⟩ => by
    subst e1
    obtain ⟨u, rfl, hu⟩ := h3
    exact ⟨g'.cutTo nB mT, _, .ret v, cutTo_ext h1 (by rw [hi.lenB]; exact l1) (by rw [hi.lenT]; exact l2), cutTo_inv h2 h5 h6, ⟨u, rfl, Rep.low v u h4 hu⟩, h7⟩⟩
theorem DFn.callable {P : Program} {f : FuncId} {caps : List AV} {rec : Option AV} {σ σ' : St} (h : DFn P f caps rec σ σ') : Callable P f := h.1
end Go.Av
