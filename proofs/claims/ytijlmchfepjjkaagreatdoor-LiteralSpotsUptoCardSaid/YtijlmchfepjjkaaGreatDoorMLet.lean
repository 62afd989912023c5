/-
  The package letters: Good.
-/
import Derived.Test.YtijlmchfepjjkaaGreatDoorAvTab
import Derived.Test.YtijlmchfepjjkaaGreatDoorAvMap
import Derived.Test.YtijlmchfepjjkaaGreatDoorShelf
import Derived.Test.YtijlmchfepjjkaaGreatDoorMValL
namespace Go.Proofs.YtijlmchfepjjkaaGreatDoor
open Go Go.Av
set_option maxRecDepth 100000
set_option maxHeartbeats 8000000
set_option linter.unusedVariables false
set_option linter.unusedSimpArgs false

/-- Is a text code points alone? -/
def good (s : Str) : Bool := Lib.validD s
theorem validString (s : Str) (hs : s.length ≤ 9223372036854775807) : PFn Tryz.prog 88 [.str s] (.bool (good s)) := by
  refine PFn.ofBelow ⟨_, Tryz.func88, rfl, rfl⟩ rfl (fun im w vals him hgl hl => ?_)
  obtain ⟨v, rest, e, hv, hr⟩ := hl
  have hv' : v = .string ⟨s.toArray⟩ := hv
  have hr' : rest = [] := hr
  subst hv'; subst hr'
  obtain rfl : vals = #[.string ⟨s.toArray⟩] := by cases vals; simp_all
  have h3 := GlobOk.rep (g := ⟨[], [], im⟩) hgl (p := (0, .agg (Lib.firstTab.map (AV.int .u8)))) (.head _)
  have h4 := GlobOk.rep (g := ⟨[], [], im⟩) hgl (p := (1, .agg (accTab.map (AV.int .u8)))) (.tail _ (.head _))
  refine (Tryz.utf8_ValidString ⟨s.toArray⟩ w (by simpa [ByteArray.size] using hs) (utf8_tabs h3 h4)).mono ?_
  rintro e w' ⟨rfl, hb⟩
  exact ⟨⟨_, rfl, rfl⟩, hb⟩
attribute [local irreducible] HCode AOps PFn AFn Av.Step TStep
theorem lgood (s : Str) (hs : s.length ≤ 9223372036854775807) : PFn Tryz.prog 70 [.str s] (.bool (good s)) := by
  have hv := validString s hs
  refine AFn.plain rfl rfl (AFn.enter [2] Tryz.func70 rfl rfl rfl rfl rfl (by decide) ?_)
  repeat' first
    | refine .seq ?_ | refine .rg ?_ | refine .rd ?_ | refine .block ?_ | refine .scope ?_ | refine .skip ?_ | refine .label ?_ | refine .exit ?_ | refine .ret ?_
    | refine .ct ?_ | refine .cf ?_ | refine .cy ?_ | refine .cn ?_ | (refine .cond rfl ?_ ?_ <;> intro hc)
    | refine A.nil_seq ?_ | refine .nl ?_ | refine .dd ?_ | refine .ys ?_ | refine .no ?_ | (refine A.guard rfl ?_ ?_ <;> intro hc)
    | refine .lb ?_ | refine .ln ?_ | refine .ls ?_ | refine .pv ?_ | refine .ix ?_ | refine .pt ?_ | refine .pf ?_ | refine .bx ?_ | refine .al ?_ | refine .st ?_ | refine .ad ?_ | refine .sb ?_ | refine .mf ?_ | refine .cl ?_ | refine .cw ?_ | refine .ck ?_
    | refine A.call rfl hv (WeakL.refl _) ?_ | fail
  exact Fin.ret1 rfl (Weak.refl _)

end Go.Proofs.YtijlmchfepjjkaaGreatDoor
