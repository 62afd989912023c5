/-
  Contracts and plain facts for a law, joined.
-/
import Derived.Test.YtgghkkeejagfkaaGreatDoorGSBC1
import Derived.Test.YtgghkkeejagfkaaGreatDoorAvTab
import Derived.Test.YtgghkkeejagfkaaGreatDoorShelf
import Derived.Test.YtgghkkeejagfkaaGreatDoorAvMap
import Derived.Test.YtgghkkeejagfkaaGreatDoorAvVec5
set_option maxRecDepth 100000
set_option maxHeartbeats 16000000
set_option linter.unusedVariables false
set_option linter.unusedSimpArgs false
set_option linter.unusedSectionVars false
namespace Go.Av
open Go
section
variable [Globals]
variable {P : Program} {all : Array Oper} {draw : Bool} {K : AX → Slots → St → Prop} {rest : List Oper} {acc : List Tag} {s : Slots} {σ : St} {ty : TypeId} {pos : String} {af : Array Edge}
theorem run_eq_nili {T : TypeId} {ms : Array (String × TypeId)} (h : P.underlying T = some (.interface ms)) {u : Value} {b : Bool} (hu : (u = .nilIface ∧ b = true) ∨ (∃ t v, u = .iface t v) ∧ b = false) (n : Nat) (w : World) : (Op.equalIn (n + 1) T u .nilIface).run P w = .ok b w := by
  rcases hu with ⟨rfl, rfl⟩ | ⟨⟨t, v, rfl⟩, rfl⟩ <;> simp [Op.equalIn, run_underlying h, Result.andThen]
theorem A.eqnil [Lay P] {d : Tmp} {T U : TypeId} {x : Operand} {v : AV} {b : Bool} {ti : TI} (hT : ty? P T = some ti) (hk : ti.kind = .iface) (hx : ev? s x = some v) (hv : (match v with | .nili => some true | .iface _ _ => some false | _ => none) = some b) (k : AOps P all draw K rest (.pure :: acc) ((d, .bool b) :: s) σ) :
    AOps P all draw K (⟨some d, .binOp .eql T x (.const .nilIface) U, ty, pos, af, none⟩ :: rest) acc s σ :=
  A.step rfl (tpure fun g w a ho => by
    have h1 := op1 hx (by simp [Op.operands]) ho
    obtain ⟨info, dd, z0, t1, t2, t3, t4, _⟩ := (ty_ok hT).ex
    have hd : ∃ ms, dd = .interface ms := by rw [hk] at t3; cases dd <;> first | exact ⟨_, rfl⟩ | cases t3
    obtain ⟨ms, rfl⟩ := hd
    have ec : a.eval (.const .nilIface) = .nilIface := rfl
    refine ⟨.bool b, ?_, rfl⟩
    cases v with
    | nili =>
      cases hv
      have e : a.eval x = .nilIface := h1
      have h3 : (Op.equal T .nilIface .nilIface).run P w = .ok true w := run_eq_nili t2 (.inl ⟨rfl, rfl⟩) 9999 w
      simp [execOp, e, ec, eqGuard, Go.binOp, h3, Result.andThen]
    | iface t v =>
      cases hv
      obtain ⟨u, e, _⟩ := h1
      have h3 : (Op.equal T (.iface t u) .nilIface).run P w = .ok false w := run_eq_nili t2 (.inr ⟨⟨t, u, rfl⟩, rfl⟩) 9999 w
      simp [execOp, e, ec, eqGuard, Go.binOp, h3, Result.andThen]
    | _ => cases hv) k
end
end Go.Av
namespace Go.Proofs.YtgghkkeejagfkaaGreatDoor
open Go Go.Av
theorem Fin.two {t1 t2 : Nat} {s : Slots} {v1 v2 r : AV} (h1 : lk? s t1 = some v1) (h2 : lk? s t2 = some v2) (hw : Weak (.tup [v1, v2]) r) : ∃ v', AEnd.ret (resAV s [t1, t2]) = .ret v' ∧ Weak v' r :=
  ⟨_, rfl, by rw [show resAV s [t1, t2] = .tup [v1, v2] by unfold resAV; simp only [List.map_cons, List.map_nil, lk_of h1, lk_of h2]]; exact hw⟩
def intOf (s : Str) : Int := match Lib.parseIntB 64 s with
  | .ok v => v
  | .range => Lib.intSat 64 s
  | _ => 0
def intIs (s : Str) : Bool := match Lib.parseIntB 64 s with
  | .ok _ => true
  | _ => false
def intErr (s : Str) : AV := match Lib.parseIntB 64 s with
  | .ok _ => .nili
  | _ => .iface 380 .undef
theorem scParse (s : Str) (hs : s.length ≤ 281474976710656) : PFn Tryz.prog 351 [.str s, .int .i64 10, .int .i64 64] (.tup [.int .i64 (intOf s), intErr s]) := by
  refine PFn.ofBelow ⟨_, Tryz.func351, rfl, rfl⟩ rfl (fun im w vals him hgl hl => ?_)
  obtain ⟨v, rest, e, hv, v2, rest2, e2, hv2, v3, rest3, e3, hv3, hr⟩ := hl
  have hv' : v = .string ⟨s.toArray⟩ := hv
  have hv2' : v2 = .int .i64 10 := hv2
  have hv3' : v3 = .int .i64 64 := hv3
  have hr' : rest3 = [] := hr
  subst hv' hv2' hv3' hr' e3 e2
  obtain rfl : vals = #[.string ⟨s.toArray⟩, .int .i64 10, .int .i64 64] := by cases vals; simp_all
  have hsz : (⟨s.toArray⟩ : ByteArray).size = s.length := by simp [ByteArray.size]
  have h5 := GlobOk.rep (g := ⟨[], [], im⟩) hgl (p := (5, .iface 389 .undef)) (.tail _ (.tail _ (.tail _ (.head _))))
  have h6 := GlobOk.rep (g := ⟨[], [], im⟩) hgl (p := (6, .iface 389 .undef)) (.tail _ (.tail _ (.tail _ (.tail _ (.head _)))))
  obtain ⟨u5, h5⟩ := err_cell h5
  obtain ⟨u6, h6⟩ := err_cell h6
  cases hp : Lib.parseIntB 64 s with
  | ok x =>
    refine (Tryz.strconv_ParseInt_10_at64_ok ⟨s.toArray⟩ (by omega) x hp w).mono ?_
    rintro e w' ⟨rfl, hb⟩
    refine ⟨⟨_, rfl, ?_⟩, ?_⟩
    · unfold intOf intErr; rw [hp]
      exact ⟨_, rfl, _, _, rfl, rfl, _, _, rfl, rfl, rfl⟩
    · rcases hb with rfl | ⟨t, rfl⟩
      · exact Go.RowKit.Below.refl _ _
      · exact Lib.bytesWorld_below _ _ _
  | range =>
    refine (Tryz.strconv_ParseInt_10_at64_range ⟨s.toArray⟩ (by omega) hp _ w h6 (.inr ⟨_, _, rfl⟩)).mono ?_
    rintro e w' ⟨N, rfl, _, _, hb⟩
    refine ⟨⟨_, rfl, ?_⟩, hb⟩
    unfold intOf intErr; rw [hp]
    exact ⟨_, rfl, _, _, rfl, rfl, _, _, rfl, ⟨_, rfl, trivial⟩, rfl⟩
  | _ =>
    refine (Tryz.strconv_ParseInt_10_at64_syn ⟨s.toArray⟩ (by omega) (by simp only [hp]) _ w h5 (.inr ⟨_, _, rfl⟩)).mono ?_
    rintro e w' ⟨N, rfl, _, _, hb⟩
    refine ⟨⟨_, rfl, ?_⟩, hb⟩
    unfold intOf intErr; rw [hp]
    exact ⟨_, rfl, _, _, rfl, rfl, _, _, rfl, ⟨_, rfl, trivial⟩, rfl⟩
attribute [local irreducible] HCode AOps PFn AFn Av.Step TStep
def dotN (s : Str) (n : Nat) : Nat × Int := if pfx [46] (s.drop n) = true then (if digs (s.drop (n + 1)) = 0 then (n, 3) else (n + 1 + digs (s.drop (n + 1)), 4)) else (n, 3)
def numK (s : Str) : Nat × Int := if wholeN s = 0 then (0, 0) else if powN (s.drop (dotN s (wholeN s)).1) = 0 then dotN s (wholeN s) else ((dotN s (wholeN s)).1 + powN (s.drop (dotN s (wholeN s)).1), 4)
theorem tnumber (s : Str) (hs : s.length ≤ 4611686018427387904) : PFn Tryz.prog 350 [.str s] (.tup [.int .i64 (numK s).1, .int .i64 (numK s).2]) := by
  refine AFn.plain rfl rfl (AFn.enter [2, 3] Tryz.func350 rfl rfl rfl rfl rfl (by decide) ?_)
  have hw := tWhole s (by omega)
  have hle := wholeN_le s
  unfold numK
  by_cases c0 : wholeN s = 0
  · have e0 : ((wholeN s : Int) == 0) = true := by rw [c0]; rfl
    repeat' first | refine .s1 ?_ | (refine .cond rfl ?_ ?_ <;> intro hc) | (refine A.guard rfl ?_ ?_ <;> intro hc) | refine A.call rfl hw (WeakL.refl _) ?_ | fail
    refine Fin.two rfl rfl (Weak.eq ?_)
    rw [if_pos c0]; rfl
  · have e0 : ((wholeN s : Int) == 0) = false := beq_eq_false_iff_ne.2 (by omega)
    have hp := hasPrefix (s.drop (wholeN s)) [46]
    rw [if_neg c0]
    unfold dotN
    by_cases c1 : pfx [46] (s.drop (wholeN s)) = true
    · rw [if_pos c1]
      have hlt := pfx1 c1
      rw [List.length_drop] at hlt
      have hd := tDigits (s.drop (wholeN s + 1)) (by rw [List.length_drop]; omega)
      have hdl := digs_le (s.drop (wholeN s + 1))
      rw [List.length_drop] at hdl
      by_cases c2 : digs (s.drop (wholeN s + 1)) = 0
      · rw [if_pos c2]
        have e2 : decide ((digs (s.drop (wholeN s + 1)) : Int) > 0) = false := by simp only [decide_eq_false_iff_not]; omega
        have hq := tPower (s.drop (wholeN s)) (by rw [List.length_drop]; omega)
        have hql := powN_le (s.drop (wholeN s))
        rw [List.length_drop] at hql
        by_cases c3 : powN (s.drop (wholeN s)) = 0
        · have e3 : decide ((powN (s.drop (wholeN s)) : Int) > 0) = false := by simp only [decide_eq_false_iff_not]; omega
          repeat' first | refine .s1 ?_ | (refine .cond rfl ?_ ?_ <;> intro hc) | (refine A.guard rfl ?_ ?_ <;> intro hc) | refine A.call rfl hw (WeakL.refl _) ?_ | refine A.slice_s (wholeN s) s.length rfl rfl rfl rfl rfl rfl rfl (by omega) (by omega) (by rw [List.take_length]) ?_ | refine A.slice_s (wholeN s + 1) s.length rfl rfl rfl rfl rfl rfl rfl (by omega) (by omega) (by rw [List.take_length]) ?_ | refine A.call rfl hp (WeakL.refl _) ?_ | refine A.call rfl hd (WeakL.refl _) ?_ | refine A.call rfl hq (WeakL.refl _) ?_ | fail
          refine Fin.two rfl rfl (Weak.eq ?_)
          rw [if_pos c3]
        · have e3 : decide ((powN (s.drop (wholeN s)) : Int) > 0) = true := by simp only [decide_eq_true_eq]; omega
          repeat' first | refine .s1 ?_ | (refine .cond rfl ?_ ?_ <;> intro hc) | (refine A.guard rfl ?_ ?_ <;> intro hc) | refine A.call rfl hw (WeakL.refl _) ?_ | refine A.slice_s (wholeN s) s.length rfl rfl rfl rfl rfl rfl rfl (by omega) (by omega) (by rw [List.take_length]) ?_ | refine A.slice_s (wholeN s + 1) s.length rfl rfl rfl rfl rfl rfl rfl (by omega) (by omega) (by rw [List.take_length]) ?_ | refine A.call rfl hp (WeakL.refl _) ?_ | refine A.call rfl hd (WeakL.refl _) ?_ | refine A.call rfl hq (WeakL.refl _) ?_ | fail
          refine Fin.two rfl rfl (Weak.eq ?_)
          rw [if_neg c3]; rfl
      · rw [if_neg c2]
        have e2 : decide ((digs (s.drop (wholeN s + 1)) : Int) > 0) = true := by simp only [decide_eq_true_eq]; omega
        have hq := tPower (s.drop (wholeN s + 1 + digs (s.drop (wholeN s + 1)))) (by rw [List.length_drop]; omega)
        have hql := powN_le (s.drop (wholeN s + 1 + digs (s.drop (wholeN s + 1))))
        rw [List.length_drop] at hql
        by_cases c3 : powN (s.drop (wholeN s + 1 + digs (s.drop (wholeN s + 1)))) = 0
        · have e3 : decide ((powN (s.drop (wholeN s + 1 + digs (s.drop (wholeN s + 1)))) : Int) > 0) = false := by simp only [decide_eq_false_iff_not]; omega
          repeat' first | refine .s1 ?_ | (refine .cond rfl ?_ ?_ <;> intro hc) | (refine A.guard rfl ?_ ?_ <;> intro hc) | refine A.call rfl hw (WeakL.refl _) ?_ | refine A.slice_s (wholeN s) s.length rfl rfl rfl rfl rfl rfl rfl (by omega) (by omega) (by rw [List.take_length]) ?_ | refine A.slice_s (wholeN s + 1) s.length rfl rfl rfl rfl rfl rfl rfl (by omega) (by omega) (by rw [List.take_length]) ?_ | refine A.slice_s (wholeN s + 1 + digs (s.drop (wholeN s + 1))) s.length rfl rfl rfl rfl rfl rfl rfl (by omega) (by omega) (by rw [List.take_length]) ?_ | refine A.call rfl hp (WeakL.refl _) ?_ | refine A.call rfl hd (WeakL.refl _) ?_ | refine A.call rfl hq (WeakL.refl _) ?_ | fail
          refine Fin.two rfl rfl (Weak.eq ?_)
          rw [if_pos c3]; rfl
        · have e3 : decide ((powN (s.drop (wholeN s + 1 + digs (s.drop (wholeN s + 1)))) : Int) > 0) = true := by simp only [decide_eq_true_eq]; omega
          repeat' first | refine .s1 ?_ | (refine .cond rfl ?_ ?_ <;> intro hc) | (refine A.guard rfl ?_ ?_ <;> intro hc) | refine A.call rfl hw (WeakL.refl _) ?_ | refine A.slice_s (wholeN s) s.length rfl rfl rfl rfl rfl rfl rfl (by omega) (by omega) (by rw [List.take_length]) ?_ | refine A.slice_s (wholeN s + 1) s.length rfl rfl rfl rfl rfl rfl rfl (by omega) (by omega) (by rw [List.take_length]) ?_ | refine A.slice_s (wholeN s + 1 + digs (s.drop (wholeN s + 1))) s.length rfl rfl rfl rfl rfl rfl rfl (by omega) (by omega) (by rw [List.take_length]) ?_ | refine A.call rfl hp (WeakL.refl _) ?_ | refine A.call rfl hd (WeakL.refl _) ?_ | refine A.call rfl hq (WeakL.refl _) ?_ | fail
          refine Fin.two rfl rfl (Weak.eq ?_)
          rw [if_neg c3]; rfl
    · rw [if_neg c1]
      have c1' : pfx [46] (s.drop (wholeN s)) = false := by simpa using c1
      have hq := tPower (s.drop (wholeN s)) (by rw [List.length_drop]; omega)
      have hql := powN_le (s.drop (wholeN s))
      rw [List.length_drop] at hql
      by_cases c3 : powN (s.drop (wholeN s)) = 0
      · have e3 : decide ((powN (s.drop (wholeN s)) : Int) > 0) = false := by simp only [decide_eq_false_iff_not]; omega
        repeat' first | refine .s1 ?_ | (refine .cond rfl ?_ ?_ <;> intro hc) | (refine A.guard rfl ?_ ?_ <;> intro hc) | refine A.call rfl hw (WeakL.refl _) ?_ | refine A.slice_s (wholeN s) s.length rfl rfl rfl rfl rfl rfl rfl (by omega) (by omega) (by rw [List.take_length]) ?_ | refine A.call rfl hp (WeakL.refl _) ?_ | refine A.call rfl hq (WeakL.refl _) ?_ | fail
        refine Fin.two rfl rfl (Weak.eq ?_)
        rw [if_pos c3]
      · have e3 : decide ((powN (s.drop (wholeN s)) : Int) > 0) = true := by simp only [decide_eq_true_eq]; omega
        repeat' first | refine .s1 ?_ | (refine .cond rfl ?_ ?_ <;> intro hc) | (refine A.guard rfl ?_ ?_ <;> intro hc) | refine A.call rfl hw (WeakL.refl _) ?_ | refine A.slice_s (wholeN s) s.length rfl rfl rfl rfl rfl rfl rfl (by omega) (by omega) (by rw [List.take_length]) ?_ | refine A.call rfl hp (WeakL.refl _) ?_ | refine A.call rfl hq (WeakL.refl _) ?_ | fail
        refine Fin.two rfl rfl (Weak.eq ?_)
        rw [if_neg c3]; rfl
def numOf (s : Str) : Int := if (numK s).1 = s.length then (numK s).2 else 0
theorem tNumber (s : Str) (hs : s.length ≤ 4611686018427387904) : PFn Tryz.prog 337 [.str s] (.int .i64 (numOf s)) := by
  refine AFn.plain rfl rfl (AFn.enter [2] Tryz.func337 rfl rfl rfl rfl rfl (by decide) ?_)
  have hn := tnumber s hs
  unfold numOf
  by_cases c : (numK s).1 = s.length
  · have e : (((numK s).1 : Int) != (s.length : Int)) = false := by rw [c]; simp
    repeat' first | refine .s1 ?_ | (refine .cond rfl ?_ ?_ <;> intro hc) | (refine A.guard rfl ?_ ?_ <;> intro hc) | refine A.call rfl hn (WeakL.refl _) ?_ | fail
    refine Fin.ret1 rfl (Weak.eq ?_)
    rw [if_pos c]
  · have e : (((numK s).1 : Int) != (s.length : Int)) = true := by simp; omega
    repeat' first | refine .s1 ?_ | (refine .cond rfl ?_ ?_ <;> intro hc) | (refine A.guard rfl ?_ ?_ <;> intro hc) | refine A.call rfl hn (WeakL.refl _) ?_ | fail
    refine Fin.ret1 rfl (Weak.eq ?_)
    rw [if_neg c]
theorem vWhole (s : Str) (hs : s.length ≤ 281474976710656) : PFn Tryz.prog 338 [.str s] (.tup [.int .i64 (intOf s), .bool (intIs s && (numOf s == 3))]) := by
  refine AFn.plain rfl rfl (AFn.enter [2, 3] Tryz.func338 rfl rfl rfl rfl rfl (by decide) ?_)
  have hn := tNumber s (by omega)
  have hp := scParse s hs
  by_cases c : intIs s = true
  · have e : intErr s = .nili := by
      unfold intIs at c; unfold intErr
      cases h : Lib.parseIntB 64 s <;> simp_all
    rw [e] at hp
    repeat' first | refine .s1 ?_ | (refine .cond rfl ?_ ?_ <;> intro hc) | (refine A.guard rfl ?_ ?_ <;> intro hc) | refine A.call rfl hp (WeakL.refl _) ?_ | refine A.call rfl hn (WeakL.refl _) ?_ | refine A.eqnil rfl rfl rfl rfl ?_ | fail
    refine Fin.two rfl rfl (Weak.eq ?_)
    rw [c]; rfl
  · have e : intErr s = .iface 380 .undef := by
      unfold intIs at c; unfold intErr
      cases h : Lib.parseIntB 64 s <;> simp_all
    have c' : intIs s = false := by simpa using c
    rw [e] at hp
    repeat' first | refine .s1 ?_ | (refine .cond rfl ?_ ?_ <;> intro hc) | (refine A.guard rfl ?_ ?_ <;> intro hc) | refine A.call rfl hp (WeakL.refl _) ?_ | refine A.call rfl hn (WeakL.refl _) ?_ | refine A.eqnil rfl rfl rfl rfl ?_ | fail
    refine Fin.two rfl rfl (Weak.eq ?_)
    rw [c']; rfl
def numB (s : Str) : Bool := numOf s == 4 || numOf s == 3 && !(intIs s && (numOf s == 3))
theorem vnum (s : Str) (hs : s.length ≤ 281474976710656) : PFn Tryz.prog 314 [.str s] (.bool (numB s)) := by
  refine AFn.plain rfl rfl (AFn.enter [2] Tryz.func314 rfl rfl rfl rfl rfl (by decide) ?_)
  have hn := tNumber s (by omega)
  have hw := vWhole s hs
  unfold numB
  repeat' first | refine .s1 ?_ | (refine .cond rfl ?_ ?_ <;> intro hc) | (refine A.guard rfl ?_ ?_ <;> intro hc) | refine A.call rfl hn (WeakL.refl _) ?_ | refine A.call rfl hw (WeakL.refl _) ?_ | fail
  all_goals
    refine Fin.ret1 rfl (Weak.eq (congrArg AV.bool ?_))
    simp_all
def resB (s : Str) : Bool := s == [116, 114, 117, 101] || s == [102, 97, 108, 115, 101] || s == [110, 117, 108, 108]
theorem vreserved (s : Str) : PFn Tryz.prog 315 [.str s] (.bool (resB s)) := by
  refine AFn.plain rfl rfl (AFn.enter [2] Tryz.func315 rfl rfl rfl rfl rfl (by decide) ?_)
  unfold resB
  repeat' first | refine .s1 ?_ | (refine .cond rfl ?_ ?_ <;> intro hc) | (refine A.guard rfl ?_ ?_ <;> intro hc) | fail
  all_goals
    refine Fin.ret1 rfl (Weak.eq (congrArg AV.bool ?_))
    simp_all
end Go.Proofs.YtgghkkeejagfkaaGreatDoor
namespace Go.Proofs.YtgghkkeejagfkaaGreatDoor
open Go Go.Av
def good (s : Str) : Bool := Lib.validD s
theorem validString (s : Str) (hs : s.length ≤ 9223372036854775807) : PFn Tryz.prog 293 [.str s] (.bool (good s)) := by
  refine PFn.ofBelow ⟨_, Tryz.func293, rfl, rfl⟩ rfl (fun im w vals him hgl hl => ?_)
  obtain ⟨v, rest, e, hv, hr⟩ := hl
  have hv' : v = .string ⟨s.toArray⟩ := hv
  have hr' : rest = [] := hr
  subst hv'; subst hr'
  obtain rfl : vals = #[.string ⟨s.toArray⟩] := by cases vals; simp_all
  have h3 := GlobOk.rep (g := ⟨[], [], im⟩) hgl (p := (0, .agg (Lib.firstTab.map (AV.int .u8)))) (.head _)
  have h4 := GlobOk.rep (g := ⟨[], [], im⟩) hgl (p := (1, .agg (accTab.map (AV.int .u8)))) (.tail _ (.head _))
  refine (Tryz.utf8_ValidString ⟨s.toArray⟩ w (by simpa [ByteArray.size] using hs) (utf8_tabs h3 h4)).mono ?_
  rintro e w' ⟨rfl, hb⟩
  exact ⟨⟨_, rfl, rfl⟩, hb⟩
attribute [local irreducible] HCode AOps PFn AFn Av.Step TStep
theorem lgood (s : Str) (hs : s.length ≤ 9223372036854775807) : PFn Tryz.prog 264 [.str s] (.bool (good s)) := by
  have hv := validString s hs
  refine AFn.plain rfl rfl (AFn.enter [2] Tryz.func264 rfl rfl rfl rfl rfl (by decide) ?_)
  repeat' first | refine .s1 ?_ | (refine .cond rfl ?_ ?_ <;> intro hc) | (refine A.guard rfl ?_ ?_ <;> intro hc) | refine A.call rfl hv (WeakL.refl _) ?_ | fail
  exact Fin.ret1 rfl (Weak.refl _)
end Go.Proofs.YtgghkkeejagfkaaGreatDoor
namespace Go.Proofs.YtgghkkeejagfkaaGreatDoor
open Go Go.Av
attribute [local irreducible] HCode AOps PFn AFn Av.Step TStep
theorem vbare (k n : Int) (s : Str) (xs ys : List AV) (t1 t2 : Tk) (hx : (AV.slice xs t1).closed = true) (hy : (AV.slice ys t2).closed = true) :
    PFn Tryz.prog 292 [.agg [.int .i64 k, .int .i64 n, .str s, .slice xs t1, .slice ys t2]] (.bool (n == 0 && s == [] && decide (xs.length = 0) && decide (ys.length = 0))) := by
  refine AFn.plain rfl (by simp only [AV.closedL, AV.closed] at hx hy ⊢; rw [hx, hy]; rfl) (AFn.enter [2] Tryz.func292 rfl rfl rfl rfl rfl (by decide) ?_)
  repeat' first | refine A.box_r rfl rfl ?_ | refine .s1 ?_ | (refine .cond rfl ?_ ?_ <;> intro hc) | (refine A.guard rfl ?_ ?_ <;> intro hc) | fail
  all_goals
    refine Fin.ret1 rfl (Weak.eq (congrArg AV.bool ?_))
    rw [Bool.eq_iff_iff]
    simp_all
def singleB (v : Val) : Bool := decide (v.l.length = 0) && decide (v.m.length = 0) &&
  (if v.kind = 0 then v.n == 0 && v.s == [] else if v.kind = 1 then (v.n == 0 || v.n == 1) && v.s == [] else if v.kind = 2 then v.s == [] else if v.kind = 3 then v.n == 0 && numB v.s
    else if v.kind = 4 then v.n == 0 && good v.s else if v.kind = 5 then v.n == 0 && nameB v.s && !resB v.s else if v.kind = 8 then v.n == 0 && nameB v.s else false)
theorem vsingle (v : Val) (hv : v.size ≤ 68719476736) : PFn Tryz.prog 291 [v.enc] (.bool (singleB v)) := by
  refine AFn.plain rfl (by simp [AV.closedL, Val.closed]) (AFn.enter [2] Tryz.func291 rfl rfl rfl rfl rfl (by decide) ?_)
  have hsz := v.size_eq
  have hb := vbare v.kind 0 [] v.lv v.mv .no .no (by simp only [AV.closed, v.lv_closed]; rfl) (by simp only [AV.closed, v.mv_closed]; rfl)
  have h3 := vnum v.s (by omega)
  have h4 := lgood v.s (by omega)
  have h5 := lName v.s (by omega)
  have h6 := vreserved v.s
  rw [v.lv_len, v.mv_len] at hb
  have h0 : ((0 : Int) == 0 && ([] : Str) == [] && decide (v.l.length = 0) && decide (v.m.length = 0)) = (decide (v.l.length = 0) && decide (v.m.length = 0)) := by simp
  rw [h0] at hb
  unfold singleB
  by_cases c0 : (decide (v.l.length = 0) && decide (v.m.length = 0)) = true
  · have e0 : (!(decide (v.l.length = 0) && decide (v.m.length = 0))) = false := by rw [c0]; rfl
    rw [c0]
    repeat' first | refine A.box_r rfl rfl ?_ | refine .s1 ?_ | (refine .cond rfl ?_ ?_ <;> intro hc) | (refine A.guard rfl ?_ ?_ <;> intro hc) | refine A.call rfl hb (WeakL.refl _) ?_ | refine A.call rfl h3 (WeakL.refl _) ?_ | refine A.call rfl h4 (WeakL.refl _) ?_ | refine A.call rfl h5 (WeakL.refl _) ?_ | refine A.call rfl h6 (WeakL.refl _) ?_ | fail
    all_goals
      refine Fin.ret1 rfl (Weak.eq (congrArg AV.bool ?_))
      simp_all
  · have c0' : (decide (v.l.length = 0) && decide (v.m.length = 0)) = false := by simpa using c0
    have e0 : (!(decide (v.l.length = 0) && decide (v.m.length = 0))) = true := by rw [c0']; rfl
    rw [c0']
    repeat' first | refine A.box_r rfl rfl ?_ | refine .s1 ?_ | (refine .cond rfl ?_ ?_ <;> intro hc) | (refine A.guard rfl ?_ ?_ <;> intro hc) | refine A.call rfl hb (WeakL.refl _) ?_ | fail
    refine Fin.ret1 rfl (Weak.eq (congrArg AV.bool ?_))
    rfl
section
variable (g : Str → Bool)
mutual
def allV : Val → Bool
  | .mk k n s l m => if k = 6 then allL l && (n == 0 && s == [] && decide (m.length = 0)) else if k = 7 then allM m && (n == 0 && s == [] && decide (l.length = 0)) else singleB (.mk k n s l m)
def allL : List Val → Bool
  | [] => true
  | v :: l => allV v && allL l
def allM : List Mem → Bool
  | [] => true
  | .mk n v :: l => (g n && allV v) && allM l
end
theorem allV_eq (v : Val) : allV g v = if v.kind = 6 then allL g v.l && (v.n == 0 && v.s == [] && decide (v.m.length = 0)) else if v.kind = 7 then allM g v.m && (v.n == 0 && v.s == [] && decide (v.l.length = 0)) else singleB v := by
  cases v; rw [allV]; rfl
theorem allL_drop {l : List Val} {k : Nat} (h : k < l.length) : allL g (l.drop k) = (allV g l[k] && allL g (l.drop (k + 1))) := by
  rw [List.drop_eq_getElem_cons h, allL]
theorem allM_drop {l : List Mem} {k : Nat} (h : k < l.length) : allM g (l.drop k) = ((g l[k].name && allV g l[k].v) && allM g (l.drop (k + 1))) := by
  rw [List.drop_eq_getElem_cons h]
  cases l[k]; rw [allM]; rfl
end
theorem Mem.name_len {v : Val} {k : Nat} (h : k < v.m.length) : v.m[k].name.length ≤ v.size := by
  have := sumSize_mem (size := Mem.size) (List.getElem_mem h)
  have h2 : v.m[k].size = v.m[k].name.length + 2 + v.m[k].v.size := rfl
  rw [v.size_eq]; omega
theorem vall (F : FuncId) (g : Str → Bool) (hF : ∀ s : Str, s.length ≤ 68719476736 → PFn Tryz.prog F [.str s] (.bool (g s))) : ∀ N : Nat, N ≤ 68719476736 → ∀ v : Val, v.size ≤ N → PFn Tryz.prog 263 [v.enc, .fn (.func F) [] []] (.bool (allV g v))
  | 0, _, v, hv => absurd hv (by have := v.size_pos; omega)
  | N + 1, hN, v, hv => by
    have ih := vall F g hF N (by omega)
    refine AFn.plain rfl (by simp [AV.closedL, AV.closed, Val.closed]) (AFn.enter [4] Tryz.func263 rfl rfl rfl rfl rfl (by decide) ?_)
    have hll := v.l_len
    have hml := v.m_len
    rw [allV_eq]
    by_cases c6 : v.kind = 6
    · have e6 : (v.kind == 6) = true := by rw [c6]; rfl
      rw [if_pos c6]
      have hb := vbare v.kind v.n v.s [] v.mv .nil .no rfl (by simp only [AV.closed, v.mv_closed]; rfl)
      rw [v.mv_len] at hb
      repeat' first | refine A.box_r rfl rfl ?_ | refine .s1 ?_ | (refine .cond rfl ?_ ?_ <;> intro hc) | (refine A.guard rfl ?_ ?_ <;> intro hc) | fail
      change HCode _ _ _ _ _ _ _
      refine HCode.loop (fun n s σ => ∃ k : Nat, n = v.l.length - k ∧ k ≤ v.l.length ∧ allL g v.l = allL g (v.l.drop k) ∧ σ = ⟨[Ob.cells [.int .i64 v.kind, .int .i64 v.n, .str v.s, .slice [] .nil, .slice v.mv .no]], []⟩ ∧
        s = [(22, .int .i64 k), (21, .int .i64 v.lv.length), (20, .slice v.lv .no), (6, .bool true), (5, .ptr 0 0), (1, .fn (.func F) [] [])])
        (s0 := [(22, .int .i64 (0 : Nat)), (21, .int .i64 v.lv.length), (20, .slice v.lv .no), (6, .bool true), (5, .ptr 0 0), (1, .fn (.func F) [] [])])
        ⟨rfl, rfl, rfl, rfl, rfl, rfl, trivial⟩ ⟨0, rfl, Nat.zero_le _, rfl, rfl, rfl⟩ ?_
      rintro n s σ ⟨k, rfl, hk, hp, rfl, rfl⟩
      by_cases h1 : k < v.l.length
      · have d1 : decide ((k : Int) < (v.lv.length : Int)) = true := by rw [v.lv_len]; simp [h1]
        have x1 := Val.lv_get h1
        have hc := ih v.l[k] (by have := Val.size_l h1; omega)
        by_cases c : allV g v.l[k] = true
        · have e1 : (!allV g v.l[k]) = false := by rw [c]; rfl
          repeat' first | refine .s1 ?_ | (refine .cond rfl ?_ ?_ <;> intro hc) | (refine A.guard rfl ?_ ?_ <;> intro hc) | refine A.call rfl hc (WeakL.refl _) ?_ | fail
          refine ⟨v.l.length - (k + 1), by omega, [(22, .int .i64 ((k + 1 : Nat) : Int)), (21, .int .i64 v.lv.length), (20, .slice v.lv .no), (6, .bool true), (5, .ptr 0 0), (1, .fn (.func F) [] [])],
            ⟨rfl, rfl, rfl, congrArg AV.bool c, rfl, rfl, trivial⟩, by simp [belowS, AV.low, AV.lowL, Val.lv_low], by simp [belowB, belowT, Ob.low, AV.low, AV.lowL, Val.mv_low], k + 1, rfl, by omega, by rw [hp, allL_drop g h1, c]; rfl, rfl, rfl⟩
        · have c' : allV g v.l[k] = false := by simpa using c
          have e1 : (!allV g v.l[k]) = true := by rw [c']; rfl
          repeat' first | refine .s1 ?_ | (refine .cond rfl ?_ ?_ <;> intro hc) | (refine A.guard rfl ?_ ?_ <;> intro hc) | refine A.call rfl hc (WeakL.refl _) ?_ | fail
          refine Fin.ret1 rfl (Weak.eq (congrArg AV.bool ?_))
          rw [hp, allL_drop g h1, c']; rfl
      · have d1 : decide ((k : Int) < (v.lv.length : Int)) = false := by rw [v.lv_len]; simp; omega
        repeat' first | refine .s1 ?_ | (refine .cond rfl ?_ ?_ <;> intro hc) | (refine A.guard rfl ?_ ?_ <;> intro hc) | refine A.call rfl hb (WeakL.refl _) ?_ | fail
        refine Fin.ret1 rfl (Weak.eq (congrArg AV.bool ?_))
        rw [hp, List.drop_eq_nil_of_le (by omega), allL]
        simp
    · have e6 : (v.kind == 6) = false := by simpa using c6
      rw [if_neg c6]
      by_cases c7 : v.kind = 7
      · have e7 : (v.kind == 7) = true := by rw [c7]; rfl
        rw [if_pos c7]
        have hb := vbare v.kind v.n v.s v.lv [] .no .nil (by simp only [AV.closed, v.lv_closed]; rfl) rfl
        rw [v.lv_len] at hb
        repeat' first | refine A.box_r rfl rfl ?_ | refine .s1 ?_ | (refine .cond rfl ?_ ?_ <;> intro hc) | (refine A.guard rfl ?_ ?_ <;> intro hc) | fail
        change HCode _ _ _ _ _ _ _
        refine HCode.loop (fun n s σ => ∃ k : Nat, n = v.m.length - k ∧ k ≤ v.m.length ∧ allM g v.m = allM g (v.m.drop k) ∧ σ = ⟨[Ob.cells [.int .i64 v.kind, .int .i64 v.n, .str v.s, .slice v.lv .no, .slice [] .nil]], []⟩ ∧
          s = [(38, .int .i64 k), (37, .int .i64 v.mv.length), (36, .slice v.mv .no), (6, .bool true), (5, .ptr 0 0), (1, .fn (.func F) [] [])])
          (s0 := [(38, .int .i64 (0 : Nat)), (37, .int .i64 v.mv.length), (36, .slice v.mv .no), (6, .bool true), (5, .ptr 0 0), (1, .fn (.func F) [] [])])
          ⟨rfl, rfl, rfl, rfl, rfl, rfl, trivial⟩ ⟨0, rfl, Nat.zero_le _, rfl, rfl, rfl⟩ ?_
        rintro n s σ ⟨k, rfl, hk, hp, rfl, rfl⟩
        by_cases h1 : k < v.m.length
        · have d1 : decide ((k : Int) < (v.mv.length : Int)) = true := by rw [v.mv_len]; simp [h1]
          have x1 := Val.mv_get h1
          have hc := ih v.m[k].v (by have := Val.size_m h1; omega)
          have hf := hF v.m[k].name (by have := Mem.name_len h1; omega)
          by_cases c0 : g v.m[k].name = true
          · by_cases c : allV g v.m[k].v = true
            · have e1 : (!allV g v.m[k].v) = false := by rw [c]; rfl
              repeat' first | refine .s1 ?_ | (refine .cond rfl ?_ ?_ <;> intro hc) | (refine A.guard rfl ?_ ?_ <;> intro hc) | refine A.call rfl hc (WeakL.refl _) ?_ | refine A.callv rfl rfl hf (WeakL.refl _) ?_ | fail
              refine ⟨v.m.length - (k + 1), by omega, [(38, .int .i64 ((k + 1 : Nat) : Int)), (37, .int .i64 v.mv.length), (36, .slice v.mv .no), (6, .bool true), (5, .ptr 0 0), (1, .fn (.func F) [] [])],
                ⟨rfl, rfl, rfl, congrArg AV.bool c, rfl, rfl, trivial⟩, by simp [belowS, AV.low, AV.lowL, Val.mv_low], by simp [belowB, belowT, Ob.low, AV.low, AV.lowL, Val.lv_low], k + 1, rfl, by omega, by rw [hp, allM_drop g h1, c0, c]; rfl, rfl, rfl⟩
            · have c' : allV g v.m[k].v = false := by simpa using c
              have e1 : (!allV g v.m[k].v) = true := by rw [c']; rfl
              repeat' first | refine .s1 ?_ | (refine .cond rfl ?_ ?_ <;> intro hc) | (refine A.guard rfl ?_ ?_ <;> intro hc) | refine A.call rfl hc (WeakL.refl _) ?_ | refine A.callv rfl rfl hf (WeakL.refl _) ?_ | fail
              refine Fin.ret1 rfl (Weak.eq (congrArg AV.bool ?_))
              rw [hp, allM_drop g h1, c', c0]; rfl
          · have c0' : g v.m[k].name = false := by simpa using c0
            repeat' first | refine .s1 ?_ | (refine .cond rfl ?_ ?_ <;> intro hc) | (refine A.guard rfl ?_ ?_ <;> intro hc) | refine A.call rfl hc (WeakL.refl _) ?_ | refine A.callv rfl rfl hf (WeakL.refl _) ?_ | fail
            refine Fin.ret1 rfl (Weak.eq (congrArg AV.bool ?_))
            rw [hp, allM_drop g h1, c0']; rfl
        · have d1 : decide ((k : Int) < (v.mv.length : Int)) = false := by rw [v.mv_len]; simp; omega
          repeat' first | refine .s1 ?_ | (refine .cond rfl ?_ ?_ <;> intro hc) | (refine A.guard rfl ?_ ?_ <;> intro hc) | refine A.call rfl hb (WeakL.refl _) ?_ | fail
          refine Fin.ret1 rfl (Weak.eq (congrArg AV.bool ?_))
          rw [hp, List.drop_eq_nil_of_le (by omega), allM]
          simp
      · have e7 : (v.kind == 7) = false := by simpa using c7
        rw [if_neg c7]
        have hs := vsingle v (by omega)
        repeat' first | refine A.box_r rfl rfl ?_ | refine .s1 ?_ | (refine .cond rfl ?_ ?_ <;> intro hc) | (refine A.guard rfl ?_ ?_ <;> intro hc) | refine A.call rfl hs (WeakL.refl _) ?_ | fail
        exact Fin.ret1 rfl (Weak.refl _)
theorem vGood (v : Val) (hv : v.size ≤ 68719476736) : PFn Tryz.prog 228 [v.enc] (.bool (allV good v)) := by
  have h := vall 264 good (fun s hs => lgood s (by omega)) v.size hv v (Nat.le_refl _)
  refine AFn.plain rfl (by simp [AV.closedL, Val.closed]) (AFn.enter [2] Tryz.func228 rfl rfl rfl rfl rfl (by decide) ?_)
  repeat' first | refine A.box_r rfl rfl ?_ | refine .s1 ?_ | (refine .cond rfl ?_ ?_ <;> intro hc) | (refine A.guard rfl ?_ ?_ <;> intro hc) | refine A.call rfl h (WeakL.refl _) ?_ | fail
  exact Fin.ret1 rfl (Weak.refl _)
end Go.Proofs.YtgghkkeejagfkaaGreatDoor
namespace Go.Proofs.YtgghkkeejagfkaaGreatDoor
open Go Go.Av
attribute [local irreducible] HCode AOps PFn AFn Av.Step TStep
def val0 : Val := .mk 0 0 [] [] []
def textV (s : Str) : Val := .mk 4 0 s [] []
def getG (name : Str) : List Mem → Val × Bool
  | [] => (val0, false)
  | m :: l => if m.name == name then (m.v, true) else getG name l
theorem getG_drop {name : Str} {l : List Mem} {k : Nat} (h : k < l.length) : getG name (l.drop k) = if l[k].name == name then (l[k].v, true) else getG name (l.drop (k + 1)) := by
  rw [List.drop_eq_getElem_cons h, getG]
theorem lv_mk (k n : Int) (s : Str) (m : List Mem) : (Val.mk k n s [] m).lv = [] := by rw [Val.lv, Val.goL]
theorem mv_mk (k n : Int) (s : Str) (l : List Val) : (Val.mk k n s l []).mv = [] := by rw [Val.mv, Val.goM]
theorem weak_flatV {k n : Int} {s : Str} {t1 t2 : Tk} : Weak (.agg [.int .i64 k, .int .i64 n, .str s, .slice [] t1, .slice [] t2]) (Val.mk k n s [] []).enc := by
  unfold Val.enc
  rw [lv_mk, mv_mk]
  exact Weak.agg (WeakL.cons (Weak.refl _) (WeakL.cons (Weak.refl _) (WeakL.cons (Weak.refl _) (WeakL.cons (Weak.no (WeakL.refl _)) (WeakL.cons (Weak.no (WeakL.refl _)) (WeakL.refl _))))))
def zeroV : List AV := [.int .i64 0, .int .i64 0, .str [], .slice [] .nil, .slice [] .nil]
theorem get (name : Str) (l : List Mem) (hl : l.length ≤ 9223372036854775807) : PFn Tryz.prog 162 [.str name, .slice (l.map Mem.enc) .no] (.tup [(getG name l).1.enc, .bool (getG name l).2]) := by
  refine AFn.plain (by simp [AV.closed, AV.closedL, Val.closed]) (by simp [AV.closed, AV.closedL, Mem.closedL]) (AFn.enterR [.cell 4 42, .tmp 5] Tryz.func162 rfl rfl rfl rfl rfl ?_)
  refine .go ?_
  change HCode _ _ _ _ _ _ _
  refine HCode.loop (fun n s σ => ∃ k : Nat, n = l.length - k ∧ k ≤ l.length ∧ getG name l = getG name (l.drop k) ∧ σ = ⟨[.cells zeroV], []⟩ ∧
    s = [(10, .int .i64 k), (9, .int .i64 l.length), (8, .slice (l.map Mem.enc) .no), (0, .str name), (4, .ptr 0 0)])
    (s0 := [(10, .int .i64 (0 : Nat)), (9, .int .i64 l.length), (8, .slice (l.map Mem.enc) .no), (0, .str name), (4, .ptr 0 0)])
    ⟨rfl, rfl, rfl, rfl, rfl, trivial⟩ ⟨0, rfl, Nat.zero_le _, rfl, rfl, rfl⟩ ?_
  rintro n s σ ⟨k, rfl, hk, hp, rfl, rfl⟩
  by_cases h1 : k < l.length
  · have d1 : decide ((k : Int) < (l.length : Int)) = true := by simp [h1]
    have x1 := map_get' (f := Mem.enc) h1
    repeat' first | refine .s1 ?_ | (refine .cond rfl ?_ ?_ <;> intro hc) | (refine A.guard rfl ?_ ?_ <;> intro hc) | fail
    · refine FinR.ret1 rfl (Weak.eq ?_)
      rw [hp, getG_drop h1, if_pos hc]; rfl
    · refine ⟨l.length - (k + 1), by omega, [(10, .int .i64 ((k + 1 : Nat) : Int)), (9, .int .i64 l.length), (8, .slice (l.map Mem.enc) .no), (0, .str name), (4, .ptr 0 0)],
        ⟨rfl, rfl, rfl, rfl, rfl, trivial⟩, by simp [belowS, AV.low, Mem.lowL], rfl, k + 1, rfl, by omega, by rw [hp, getG_drop h1, if_neg (by simp [hc])], rfl, rfl⟩
  · have d1 : decide ((k : Int) < (l.length : Int)) = false := by simp; omega
    refine .go ?_
    refine FinR.ret1 rfl ?_
    rw [hp, List.drop_eq_nil_of_le (by omega), getG]
    exact Weak.tup (WeakL.cons weak_flatV (WeakL.refl _))
theorem text (n : Str) : PFn Tryz.prog 161 [.str n] (textV n).enc := by
  refine AFn.plain (Val.closed _) rfl (AFn.enterR [.cell 2 42] Tryz.func161 rfl rfl rfl rfl rfl ?_)
  refine .go ?_
  exact FinR.ret1 rfl weak_flatV
end Go.Proofs.YtgghkkeejagfkaaGreatDoor
namespace Go.Proofs.YtgghkkeejagfkaaGreatDoor
open Go Go.Av
def rightT (t : Typ) : Bool := nameB t.name && (decide (0 ≤ t.lists) && (decide (t.lists ≤ 4) && (decide (0 ≤ t.musts) && decide (t.musts < 2 ^ (t.lists.toNat + 1)))))
def isT (t : Typ) : Bool := rightT t && decide (t.musts % 2 = 1)
def itemT (t : Typ) : Typ := ⟨t.name, t.lists - 1, t.musts / 2⟩
def zeroT : Typ := ⟨[], 0, 0⟩
def itemR (t : Typ) : Typ × Bool := if rightT t = true ∧ t.lists ≠ 0 then (itemT t, true) else (zeroT, false)
theorem rightT_iff {t : Typ} : rightT t = true ↔ nameB t.name = true ∧ 0 ≤ t.lists ∧ t.lists ≤ 4 ∧ 0 ≤ t.musts ∧ t.musts < 2 ^ (t.lists.toNat + 1) := by
  simp [rightT, Bool.and_eq_true, and_assoc]
theorem rightT_item {t : Typ} (h : rightT t = true) (hl : t.lists ≠ 0) : rightT (itemT t) = true := by
  rw [rightT_iff] at *
  obtain ⟨h1, h2, h3, h4, h5⟩ := h
  have e : t.lists.toNat = (t.lists - 1).toNat + 1 := by omega
  refine ⟨h1, ?_, ?_, ?_, ?_⟩
  · show 0 ≤ t.lists - 1; omega
  · show t.lists - 1 ≤ 4; omega
  · show 0 ≤ t.musts / 2; omega
  · show t.musts / 2 < 2 ^ ((t.lists - 1).toNat + 1)
    rw [e, Int.pow_succ] at h5
    omega
def sInt : Str := [73, 110, 116]
def sString : Str := [83, 116, 114, 105, 110, 103]
def sBoolean : Str := [66, 111, 111, 108, 101, 97, 110]
def sID : Str := [73, 68]
def scalarB (n : Str) : Bool := n == sInt || n == sString || n == sBoolean || n == sID
def zeroD : Dfn := ⟨0, [], [], [], [], []⟩
def findO (s : Sch) (name : Str) : Option Dfn := if scalarB name = true then some ⟨0, name, [], [], [], []⟩ else s.defs.find? (fun d => d.name == name)
def findR (s : Sch) (name : Str) : Dfn × Bool := match findO s name with
  | some d => (d, true)
  | none => (zeroD, false)
def kindB (s : Sch) (name : Str) (ks : List Int) : Bool := (findR s name).2 && decide ((findR s name).1.kind ∈ ks)
def leafB (s : Sch) (name : Str) : Bool := kindB s name [0, 4]
def compB (s : Sch) (name : Str) : Bool := kindB s name [1, 2, 3]
def entryB (s : Sch) (name : Str) : Bool := kindB s name [0, 4, 5]
abbrev zeroVal : Val := val0
def zeroP : Par := ⟨[], zeroT, false, zeroVal⟩
def parO (l : List Par) (name : Str) : Option Par := l.find? (fun p => p.name == name)
def parR (l : List Par) (name : Str) : Par × Bool := match parO l name with
  | some p => (p, true)
  | none => (zeroP, false)
def reqB (p : Par) : Bool := isT p.t && !p.has
def needsB (m : List Mem) : List Par → Bool
  | [] => true
  | p :: l => ((m.any fun x => x.name == p.name) || !reqB p) && needsB m l
def scalFit (name : Str) (k n : Int) : Bool :=
  if name = sInt then k == 2 && (decide (-2147483648 ≤ n) && decide (n ≤ 2147483647)) else if name = sString then k == 4 else if name = sBoolean then k == 1 else if name = sID then k == 4 || k == 2 else false
def bareB (s : Sch) (name : Str) (k n : Int) (str : Str) (inp : List Par → Bool) : Bool :=
  match findO s name with
  | none => false
  | some d => if d.kind = 4 then k == 5 && decide (str ∈ d.parts) else if d.kind = 5 then k == 7 && inp d.params else if d.kind = 0 then scalFit name k n else false
mutual
def fitsV (s : Sch) : Val → Typ → Bool → Bool
  | .mk k n str l m, t, w =>
    if k = 8 then rightT t else if k = 0 then rightT t && !isT t else rightT t &&
      (if t.lists = 0 then bareB s t.name k n str (fun ps => fitsM s ps m [] && needsB m ps) else if k = 6 then fitsL s l (itemT t) else !w && bareB s t.name k n str (fun ps => fitsM s ps m [] && needsB m ps))
def fitsL (s : Sch) : List Val → Typ → Bool
  | [], _ => true
  | v :: l, t => fitsV s v t true && fitsL s l t
def fitsM (s : Sch) (ps : List Par) : List Mem → List Str → Bool
  | [], _ => true
  | .mk nm v :: m, seen => (match parO ps nm with | none => false | some p => fitsV s v p.t false) && (!decide (nm ∈ seen) && fitsM s ps m (seen ++ [nm]))
end
def inputB (s : Sch) (ps : List Par) (v : Val) : Bool := v.kind == 7 && (fitsM s ps v.m [] && needsB v.m ps)
def bareV (s : Sch) (name : Str) (v : Val) : Bool := bareB s name v.kind v.n v.s (fun ps => fitsM s ps v.m [] && needsB v.m ps)
theorem fitsV_eq (s : Sch) (v : Val) (t : Typ) (w : Bool) : fitsV s v t w = if v.kind = 8 then rightT t else if v.kind = 0 then rightT t && !isT t else rightT t &&
      (if t.lists = 0 then bareV s t.name v else if v.kind = 6 then fitsL s v.l (itemT t) else !w && bareV s t.name v) := by
  cases v; rw [fitsV]; rfl
theorem fitsL_drop {s : Sch} {t : Typ} {l : List Val} {k : Nat} (h : k < l.length) : fitsL s (l.drop k) t = (fitsV s l[k] t true && fitsL s (l.drop (k + 1)) t) := by
  rw [List.drop_eq_getElem_cons h, fitsL]
theorem fitsM_drop {s : Sch} {ps : List Par} {l : List Mem} {k : Nat} (h : k < l.length) : fitsM s ps (l.drop k) ((l.take k).map Mem.name) =
    ((match parO ps l[k].name with | none => false | some p => fitsV s l[k].v p.t false) && (!decide (l[k].name ∈ (l.take k).map Mem.name) && fitsM s ps (l.drop (k + 1)) ((l.take (k + 1)).map Mem.name))) := by
  rw [List.drop_eq_getElem_cons h, List.take_succ_eq_append_getElem h, List.map_append]
  cases hx : l[k]; rw [fitsM]; rfl
theorem fitsV_down {s : Sch} {v : Val} {t : Typ} {w : Bool} (h8 : v.kind ≠ 8) (h0 : v.kind ≠ 0) (h6 : v.kind ≠ 6) (hr : rightT t = true) (hl : t.lists ≠ 0) : fitsV s v t w = (!w && fitsV s v (itemT t) false) := by
  rw [fitsV_eq, fitsV_eq s v (itemT t), if_neg h8, if_neg h0, if_neg hl, if_neg h6, if_neg h8, if_neg h0, if_neg h6, hr, rightT_item hr hl]
  simp only [Bool.true_and, Bool.not_false, ite_self]
  rfl
theorem fitsV_list {s : Sch} {v : Val} {t : Typ} {w : Bool} (h6 : v.kind = 6) (hr : rightT t = true) (hl : t.lists ≠ 0) : fitsV s v t w = fitsL s v.l (itemT t) := by
  rw [fitsV_eq, if_neg (by omega), if_neg (by omega), if_neg hl, if_pos h6, hr]; rfl
theorem fitsV_bare {s : Sch} {v : Val} {t : Typ} {w : Bool} (h8 : v.kind ≠ 8) (h0 : v.kind ≠ 0) (hr : rightT t = true) (hl : t.lists = 0) : fitsV s v t w = bareV s t.name v := by
  rw [fitsV_eq, if_neg h8, if_neg h0, if_pos hl, hr]; rfl
theorem fitsV_wrong {s : Sch} {v : Val} {t : Typ} {w : Bool} (hr : rightT t = false) : fitsV s v t w = false := by
  rw [fitsV_eq, hr]; simp
def litR (s : Sch) (t : Typ) (v : Val) : Bool := allV good v && fitsV s v t false
def addNew (l : List Str) (x : Str) : List Str := if x ∈ l then l else l ++ [x]
mutual
def varsV : Val → List Str → List Str
  | .mk k n str l m, acc => if k = 8 then addNew acc str else if k = 6 then varsL l acc else if k = 7 then varsM m acc else acc
def varsL : List Val → List Str → List Str
  | [], acc => acc
  | v :: l, acc => varsL l (varsV v acc)
def varsM : List Mem → List Str → List Str
  | [], acc => acc
  | .mk _ v :: m, acc => varsM m (varsV v acc)
end
theorem fits_null {s : Sch} {v : Val} {t : Typ} {w : Bool} (h0 : v.kind = 0) : fitsV s v t w = (rightT t && !isT t) := by
  rw [fitsV_eq, if_neg (by omega), if_pos h0]
end Go.Proofs.YtgghkkeejagfkaaGreatDoor
namespace Go.Av
open Go
variable [Globals]
theorem A.allocv {P : Program} [Lay P] {all : Array Oper} {draw : Bool} {K : AX → Slots → St → Prop} {rest : List Oper} {acc : List Tag} {s : Slots} {σ : St} {ty : TypeId} {pos : String} {af : Array Edge} {d : Tmp} {T : TypeId} {k z : Nat} {x : AV} {T' : List Tok} {ti : TI} (hT : ty? P T = some ti) (hz' : ti.size = z) (hx : ti.zero = x)
    (hk : smallLen σ.T = some k) (hT' : snocK σ.T (.vec [x]) some = some T')
    (kk : AOps P all draw K rest (.tk :: acc) ((d, .vptr k z 1 0 0) :: s) ⟨σ.B, T'⟩) : AOps P all draw K (⟨some d, .alloc T, ty, pos, af, none⟩ :: rest) acc s σ :=
  A.step (t := .tk) (σ' := ⟨σ.B, T'⟩) rfl ⟨rfl, fun B => by
    intro g w a next Q hI ho hn
    subst hz'; subst hx
    obtain ⟨zv, hz, hz1, hz2, hz3⟩ := run_zero' hT w
    have h1 : Rep g w ti.zero zv := by rw [← hz1]; exact rep_ofConst g w zv
    have hTe : σ.T ++ [.vec [ti.zero]] = T' := Option.some.inj (snocK_spec _ _ _ _ hT')
    have hkl : σ.T.length = k := smallLen_spec hk
    have hnone : g.tk[k]? = none := by
      have hlt : g.tk.length = σ.T.length := hI.lenT
      rw [← hkl, ← hlt]; simp
    have hzone : ∀ b o, (⟨some ⟨w.heap.size, 0, none⟩, 1, 1, ti.size, 0⟩ : Rec).zone b o → b = w.heap.size ∧ o < zv.cells.size := by
      rintro b o ⟨p, hp, rfl, e1, e2⟩
      cases hp
      refine ⟨rfl, ?_⟩
      rw [hz2]
      simpa using e2
    obtain ⟨g', e1, e2, e3, _⟩ := retk (k := k) (r' := ⟨some ⟨w.heap.size, 0, none⟩, 1, 1, ti.size, 0⟩) (t' := .vec [ti.zero]) (J := fun _ _ => False) hI (w' := pushW w (.cells zv.cells T)) (.inr ⟨hkl.symm, rfl⟩)
      (by rw [push_size]; exact Nat.le_succ _) rfl rfl rfl (fun b hb _ => push_old w _ hb) (fun b o hb _ => (cell_old (push_old w _ hb)).1) (fun b o hb => (cell_old (push_old w _ hb)).2) (fun _ _ h => h.elim)
      (fun b o ho => by
        obtain ⟨rfl, h2⟩ := hzone b o ho
        exact ⟨⟨zv.cells[o], (new_data_cell w zv.cells T o).trans (Array.getElem?_eq_getElem h2)⟩, new_data_frozen w zv.cells T o, .inl (Nat.le_refl _)⟩)
      (fun r hr => by rw [hnone] at hr; cases hr)
      (fun g' hle => ⟨rfl, rfl, Nat.le_refl _, [zv], ⟨zv, [], rfl, Rep.mono hle _ _ h1, rfl⟩, (fun e => by cases e), (fun V hV => by rw [List.mem_singleton.1 hV]; exact hz2), (fun p hp => by
        cases hp
        refine ⟨.inl rfl, inMemE_of_flat (fun V hV => by rw [List.mem_singleton.1 hV]; exact hz2) fun j u hj => ?_⟩
        have hj' : zv.cells.toList[j]? = some u := by simpa [flat] using hj
        refine ⟨trivial, ?_, hz3 u (List.mem_of_getElem? hj')⟩
        show (pushW w (.cells zv.cells T)).cell? ⟨w.heap.size, 0 + j, none⟩ = some u
        rw [Nat.zero_add]
        exact (new_data_cell w zv.cells T j).trans (by simpa using hj'))⟩)
    unfold Oper.wp
    simp only [execOp, Instr.alloc, hz, newVar, newRow, newObj, Sem.run_bind, Result.andThen, Sem.run]
    exact hn _ _ _ e1 (hTe ▸ e2) ⟨w.heap.size, 0, rfl, by omega, _, e3, rfl, Nat.le_refl _, fun _ => ⟨rfl, _, rfl, rfl, rfl, by simp⟩⟩⟩ kk
theorem Turn.freezeP {σ : St} {k z n j : Nat} {xs : List AV} {y : AV} {T' : List Tok} (hT : σ.T[k]? = some (.vec xs)) (hn : xs.length = n) (hy : xs[j]? = some y) (hT' : setTK k (.len (n + 1)) σ.T some = some T') :
    Turn σ (.vptr k z n j 0) ⟨σ.B, T'⟩ (.rptr y) := fun g w v hI hr => by
  obtain ⟨kl, hTe⟩ := setTK_spec _ _ _ _ _ hT'
  obtain ⟨r0, Vs, p, hv, hp, hps, rfl, hj⟩ := vptr_at hI hr hT hn
  obtain ⟨V, hV, hrV⟩ := hv.rep.get hy
  have hkl : k < σ.T.length := (List.getElem?_eq_some_iff.1 hT).1
  obtain ⟨g', e1, e2, e3, e4⟩ := retk (r' := ⟨none, n + 1, 0, z, n + 1⟩) (t' := .len (n + 1)) (J := fun b o => r0.zone b o) hI (w' := w) (.inl ⟨hkl, rfl⟩) (Nat.le_refl _) rfl rfl rfl (fun _ _ _ => rfl) (fun _ _ _ _ => rfl) (fun _ _ _ => rfl)
    (fun b o hzo => ⟨(fun ⟨p, hp, _⟩ => by cases hp), hI.z_lt hv.hr hzo, .inr ⟨r0, hv.hr, hzo⟩⟩)
    (fun b o ⟨p, hp, _⟩ => by cases hp) (fun r1 hr1 => by
      have : r1 = r0 := Option.some.inj (hr1.symm.trans hv.hr)
      subst this
      exact .inr ⟨by rw [hv.n, hn]; show n < n + 1; omega, by rw [hv.sz]⟩) (fun g' _ => ⟨rfl, rfl⟩)
  refine ⟨g', e1, ?_, p.block, p.off + j * z + 0, V, rfl, fun i x hi => ?_, Rep.mono e1.le _ _ hrV⟩
  · rw [← Option.some.inj hTe]; exact e2
  · obtain ⟨m1, m2⟩ := (hv.mem p hp).2 j V hV
    obtain ⟨_, m3, m4⟩ := m2 i x hi
    have hi' : i < z := by have := (Array.getElem?_eq_some_iff.1 hi).1; omega
    have hb : (j + 1) * z ≤ r0.cap * z := Nat.mul_le_mul_right _ (by have := hv.cap; have := hv.len; omega)
    rw [Nat.succ_mul] at hb
    have hz := hv.zone hp (o := j * z + i) (by omega)
    rw [← Nat.add_assoc] at hz
    rw [Nat.add_zero]
    exact ⟨e4 _ _ hz, m3, m4⟩
end Go.Av
namespace Go.Proofs.YtgghkkeejagfkaaGreatDoor
open Go Go.Av
def idxFrom {α : Type} (p : α → Bool) : List α → Nat → Int
  | [], _ => -1
  | x :: l, k => if p x then (k : Int) else idxFrom p l (k + 1)
theorem idxFrom_drop {α : Type} {p : α → Bool} {l : List α} {k : Nat} (h : k < l.length) : idxFrom p (l.drop k) k = if p l[k] then (k : Int) else idxFrom p (l.drop (k + 1)) (k + 1) := by
  rw [List.drop_eq_getElem_cons h, idxFrom]
theorem idxFrom_spec {α : Type} (p : α → Bool) : ∀ (l : List α) (k : Nat), (idxFrom p l k = -1 ∧ l.find? p = none) ∨ ∃ (j : Nat) (h : j < l.length), idxFrom p l k = ((k + j : Nat) : Int) ∧ l.find? p = some l[j]
  | [], k => .inl ⟨rfl, rfl⟩
  | x :: l, k => by
    by_cases e : p x = true
    · exact .inr ⟨0, by simp, by simp [idxFrom, e], by simp [e]⟩
    · rcases idxFrom_spec p l (k + 1) with ⟨h1, h2⟩ | ⟨j, h, h1, h2⟩
      · exact .inl ⟨by simp [idxFrom, e, h1], by simp [List.find?, e, h2]⟩
      · exact .inr ⟨j + 1, by simpa using h, by simp [idxFrom, e, h1]; omega, by simp [List.find?, e, h2]⟩
theorem idx_any {α : Type} (p : α → Bool) (l : List α) : decide (0 ≤ idxFrom p l 0) = l.any p := by
  rcases idxFrom_spec p l 0 with ⟨h1, h2⟩ | ⟨j, hj, h1, h2⟩
  · rw [h1]
    rw [List.find?_eq_none] at h2
    have : l.any p = false := by rw [Bool.eq_false_iff]; intro h; obtain ⟨x, hx, hp⟩ := List.any_eq_true.1 h; exact h2 x hx hp
    rw [this]; decide
  · rw [h1]
    have hp := List.find?_some h2
    have : l.any p = true := List.any_eq_true.2 ⟨_, List.getElem_mem hj, hp⟩
    rw [this]
    exact decide_eq_true (by omega)
theorem idx_mem (l : List Str) (x : Str) : decide (0 ≤ idxFrom (fun y => x == y) l 0) = decide (x ∈ l) := by
  rw [idx_any, Bool.eq_iff_iff, List.any_eq_true, decide_eq_true_eq]
  constructor
  · rintro ⟨y, hy, e⟩; rw [beq_iff_eq] at e; subst e; exact hy
  · intro h; exact ⟨x, h, by simp⟩
theorem idx_memI (l : List Int) (x : Int) : decide (0 ≤ idxFrom (fun y => x == y) l 0) = decide (x ∈ l) := by
  rw [idx_any, Bool.eq_iff_iff, List.any_eq_true, decide_eq_true_eq]
  constructor
  · rintro ⟨y, hy, e⟩; rw [beq_iff_eq] at e; subst e; exact hy
  · intro h; exact ⟨x, h, by simp⟩
end Go.Proofs.YtgghkkeejagfkaaGreatDoor
