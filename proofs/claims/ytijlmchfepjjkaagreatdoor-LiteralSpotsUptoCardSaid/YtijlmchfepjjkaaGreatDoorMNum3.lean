/-
  The package token: number, Number. The package value: Whole, num, reserved.
-/
import Derived.Test.YtijlmchfepjjkaaGreatDoorAvTab
import Derived.Test.YtijlmchfepjjkaaGreatDoorShelf
import Derived.Test.YtijlmchfepjjkaaGreatDoorMNum2
namespace Go.Av
open Go
set_option linter.unusedSectionVars false
section
variable [Globals]
variable {P : Program} {all : Array Oper} {draw : Bool} {K : AX → Slots → St → Prop} {rest : List Oper} {acc : List Tag} {s : Slots} {σ : St} {ty : TypeId} {pos : String} {af : Array Edge}
theorem run_eq_nili {T : TypeId} {ms : Array (String × TypeId)} (h : P.underlying T = some (.interface ms)) {u : Value} {b : Bool} (hu : (u = .nilIface ∧ b = true) ∨ (∃ t v, u = .iface t v) ∧ b = false) (n : Nat) (w : World) : (Op.equalIn (n + 1) T u .nilIface).run P w = .ok b w := by
  rcases hu with ⟨rfl, rfl⟩ | ⟨⟨t, v, rfl⟩, rfl⟩ <;> simp [Op.equalIn, run_underlying h, Result.andThen]
theorem A.eqnil [Lay P] {d : Tmp} {T U : TypeId} {x : Operand} {v : AV} {b : Bool} {ti : TI} (hT : ty? P T = some ti) (hk : ti.kind = .iface) (hx : ev? s x = some v) (hv : (match v with | .nili => some true | .iface _ _ => some false | _ => none) = some b) (k : AOps P all draw K rest (.pure :: acc) ((d, .bool b) :: s) σ) :
    AOps P all draw K (⟨some d, .binOp .eql T x (.const .nilIface) U, ty, pos, af, none⟩ :: rest) acc s σ :=
  A.step rfl (tpure fun g w a ho => by
    have h1 := op1 hx (by simp [Op.operands]) ho
    obtain ⟨info, dd, z0, t1, t2, t3, t4, _⟩ := (ty_ok hT).ex
    have hd : ∃ ms, dd = .interface ms := by rw [hk] at t3; cases dd <;> first | exact ⟨_, rfl⟩ | cases t3
    obtain ⟨ms, rfl⟩ := hd
    have ec : a.eval (.const .nilIface) = .nilIface := rfl
    refine ⟨.bool b, ?_, rfl⟩
    cases v with
    | nili =>
      cases hv
      have e : a.eval x = .nilIface := h1
      have h3 : (Op.equal T .nilIface .nilIface).run P w = .ok true w := run_eq_nili t2 (.inl ⟨rfl, rfl⟩) 9999 w
      simp [execOp, e, ec, eqGuard, Go.binOp, h3, Result.andThen]
    | iface t v =>
      cases hv
      obtain ⟨u, e, _⟩ := h1
      have h3 : (Op.equal T (.iface t u) .nilIface).run P w = .ok false w := run_eq_nili t2 (.inr ⟨⟨t, u, rfl⟩, rfl⟩) 9999 w
      simp [execOp, e, ec, eqGuard, Go.binOp, h3, Result.andThen]
    | _ => cases hv) k
end
end Go.Av
namespace Go.Proofs.YtijlmchfepjjkaaGreatDoor
open Go Go.Av
set_option maxRecDepth 100000
set_option maxHeartbeats 8000000
set_option linter.unusedVariables false
set_option linter.unusedSimpArgs false

theorem Fin.two {t1 t2 : Nat} {s : Slots} {v1 v2 r : AV} (h1 : lk? s t1 = some v1) (h2 : lk? s t2 = some v2) (hw : Weak (.tup [v1, v2]) r) : ∃ v', AEnd.ret (resAV s [t1, t2]) = .ret v' ∧ Weak v' r :=
  ⟨_, rfl, by rw [show resAV s [t1, t2] = .tup [v1, v2] by unfold resAV; simp only [List.map_cons, List.map_nil, lk_of h1, lk_of h2]]; exact hw⟩
/-- What strconv.ParseInt(s, 10, 64) tells. -/
def intOf (s : Str) : Int := match Lib.parseIntB 64 s with
  | .ok v => v
  | .range => Lib.intSat 64 s
  | _ => 0
def intIs (s : Str) : Bool := match Lib.parseIntB 64 s with
  | .ok _ => true
  | _ => false
def intErr (s : Str) : AV := match Lib.parseIntB 64 s with
  | .ok _ => .nili
  | _ => .iface 174 .undef
theorem scParse (s : Str) (hs : s.length ≤ 281474976710656) : PFn Tryz.prog 116 [.str s, .int .i64 10, .int .i64 64] (.tup [.int .i64 (intOf s), intErr s]) := by
  refine PFn.ofBelow ⟨_, Tryz.func116, rfl, rfl⟩ rfl (fun im w vals him hgl hl => ?_)
  obtain ⟨v, rest, e, hv, v2, rest2, e2, hv2, v3, rest3, e3, hv3, hr⟩ := hl
  have hv' : v = .string ⟨s.toArray⟩ := hv
  have hv2' : v2 = .int .i64 10 := hv2
  have hv3' : v3 = .int .i64 64 := hv3
  have hr' : rest3 = [] := hr
  subst hv' hv2' hv3' hr' e3 e2
  obtain rfl : vals = #[.string ⟨s.toArray⟩, .int .i64 10, .int .i64 64] := by cases vals; simp_all
  have hsz : (⟨s.toArray⟩ : ByteArray).size = s.length := by simp [ByteArray.size]
  have h5 := GlobOk.rep (g := ⟨[], [], im⟩) hgl (p := (5, .iface 185 .undef)) (.tail _ (.tail _ (.tail _ (.head _))))
  have h6 := GlobOk.rep (g := ⟨[], [], im⟩) hgl (p := (6, .iface 185 .undef)) (.tail _ (.tail _ (.tail _ (.tail _ (.head _)))))
  obtain ⟨u5, h5⟩ := err_cell h5
  obtain ⟨u6, h6⟩ := err_cell h6
  cases hp : Lib.parseIntB 64 s with
  | ok x =>
    refine (Tryz.strconv_ParseInt_10_at64_ok ⟨s.toArray⟩ (by omega) x hp w).mono ?_
    rintro e w' ⟨rfl, hb⟩
    refine ⟨⟨_, rfl, ?_⟩, ?_⟩
    · unfold intOf intErr; rw [hp]
      exact ⟨_, rfl, _, _, rfl, rfl, _, _, rfl, rfl, rfl⟩
    · rcases hb with rfl | ⟨t, rfl⟩
      · exact Go.RowKit.Below.refl _ _
      · exact Lib.bytesWorld_below _ _ _
  | range =>
    refine (Tryz.strconv_ParseInt_10_at64_range ⟨s.toArray⟩ (by omega) hp _ w h6 (.inr ⟨_, _, rfl⟩)).mono ?_
    rintro e w' ⟨N, rfl, _, _, hb⟩
    refine ⟨⟨_, rfl, ?_⟩, hb⟩
    unfold intOf intErr; rw [hp]
    exact ⟨_, rfl, _, _, rfl, rfl, _, _, rfl, ⟨_, rfl, trivial⟩, rfl⟩
  | _ =>
    refine (Tryz.strconv_ParseInt_10_at64_syn ⟨s.toArray⟩ (by omega) (by simp only [hp]) _ w h5 (.inr ⟨_, _, rfl⟩)).mono ?_
    rintro e w' ⟨N, rfl, _, _, hb⟩
    refine ⟨⟨_, rfl, ?_⟩, hb⟩
    unfold intOf intErr; rw [hp]
    exact ⟨_, rfl, _, _, rfl, rfl, _, _, rfl, ⟨_, rfl, trivial⟩, rfl⟩
attribute [local irreducible] HCode AOps PFn AFn Av.Step TStep

def dotN (s : Str) (n : Nat) : Nat × Int := if pfx [46] (s.drop n) = true then (if digs (s.drop (n + 1)) = 0 then (n, 3) else (n + 1 + digs (s.drop (n + 1)), 4)) else (n, 3)
/-- How many bytes of a number are ahead, and its kind. -/
def numK (s : Str) : Nat × Int := if wholeN s = 0 then (0, 0) else if powN (s.drop (dotN s (wholeN s)).1) = 0 then dotN s (wholeN s) else ((dotN s (wholeN s)).1 + powN (s.drop (dotN s (wholeN s)).1), 4)
theorem tnumber (s : Str) (hs : s.length ≤ 4611686018427387904) : PFn Tryz.prog 115 [.str s] (.tup [.int .i64 (numK s).1, .int .i64 (numK s).2]) := by
  refine AFn.plain rfl rfl (AFn.enter [2, 3] Tryz.func115 rfl rfl rfl rfl rfl (by decide) ?_)
  have hw := tWhole s (by omega)
  have hle := wholeN_le s
  unfold numK
  by_cases c0 : wholeN s = 0
  · have e0 : ((wholeN s : Int) == 0) = true := by rw [c0]; rfl
    repeat' first
      | refine .seq ?_ | refine .rg ?_ | refine .rd ?_ | refine .block ?_ | refine .scope ?_ | refine .skip ?_ | refine .label ?_ | refine .exit ?_ | refine .ret ?_
      | refine .ct ?_ | refine .cf ?_ | refine .cy ?_ | refine .cn ?_ | (refine .cond rfl ?_ ?_ <;> intro hc)
      | refine A.nil_seq ?_ | refine .nl ?_ | refine .dd ?_ | refine .ys ?_ | refine .no ?_ | (refine A.guard rfl ?_ ?_ <;> intro hc)
      | refine .lb ?_ | refine .ln ?_ | refine .ls ?_ | refine .pv ?_ | refine .ix ?_ | refine .pt ?_ | refine .pf ?_ | refine .bx ?_ | refine .al ?_ | refine .st ?_ | refine .ad ?_ | refine .sb ?_ | refine .mf ?_ | refine .cl ?_ | refine .cw ?_ | refine .ck ?_
      | refine A.call rfl hw (WeakL.refl _) ?_ | fail
    refine Fin.two rfl rfl (Weak.eq ?_)
    rw [if_pos c0]; rfl
  · have e0 : ((wholeN s : Int) == 0) = false := beq_eq_false_iff_ne.2 (by omega)
    have hp := hasPrefix (s.drop (wholeN s)) [46]
    rw [if_neg c0]
    unfold dotN
    by_cases c1 : pfx [46] (s.drop (wholeN s)) = true
    · rw [if_pos c1]
      have hlt := pfx1 c1
      rw [List.length_drop] at hlt
      have hd := tDigits (s.drop (wholeN s + 1)) (by rw [List.length_drop]; omega)
      have hdl := digs_le (s.drop (wholeN s + 1))
      rw [List.length_drop] at hdl
      by_cases c2 : digs (s.drop (wholeN s + 1)) = 0
      · rw [if_pos c2]
        have e2 : decide ((digs (s.drop (wholeN s + 1)) : Int) > 0) = false := by simp only [decide_eq_false_iff_not]; omega
        have hq := tPower (s.drop (wholeN s)) (by rw [List.length_drop]; omega)
        have hql := powN_le (s.drop (wholeN s))
        rw [List.length_drop] at hql
        by_cases c3 : powN (s.drop (wholeN s)) = 0
        · have e3 : decide ((powN (s.drop (wholeN s)) : Int) > 0) = false := by simp only [decide_eq_false_iff_not]; omega
          repeat' first
            | refine .seq ?_ | refine .rg ?_ | refine .rd ?_ | refine .block ?_ | refine .scope ?_ | refine .skip ?_ | refine .label ?_ | refine .exit ?_ | refine .ret ?_
            | refine .ct ?_ | refine .cf ?_ | refine .cy ?_ | refine .cn ?_ | (refine .cond rfl ?_ ?_ <;> intro hc)
            | refine A.nil_seq ?_ | refine .nl ?_ | refine .dd ?_ | refine .ys ?_ | refine .no ?_ | (refine A.guard rfl ?_ ?_ <;> intro hc)
            | refine .lb ?_ | refine .ln ?_ | refine .ls ?_ | refine .pv ?_ | refine .ix ?_ | refine .pt ?_ | refine .pf ?_ | refine .bx ?_ | refine .al ?_ | refine .st ?_ | refine .ad ?_ | refine .sb ?_ | refine .mf ?_ | refine .cl ?_ | refine .cw ?_ | refine .ck ?_
            | refine A.call rfl hw (WeakL.refl _) ?_ | refine A.slice_s (wholeN s) s.length rfl rfl rfl rfl rfl rfl rfl (by omega) (by omega) (by rw [List.take_length]) ?_ | refine A.slice_s (wholeN s + 1) s.length rfl rfl rfl rfl rfl rfl rfl (by omega) (by omega) (by rw [List.take_length]) ?_ | refine A.call rfl hp (WeakL.refl _) ?_ | refine A.call rfl hd (WeakL.refl _) ?_ | refine A.call rfl hq (WeakL.refl _) ?_ | fail
          refine Fin.two rfl rfl (Weak.eq ?_)
          rw [if_pos c3]
        · have e3 : decide ((powN (s.drop (wholeN s)) : Int) > 0) = true := by simp only [decide_eq_true_eq]; omega
          repeat' first
            | refine .seq ?_ | refine .rg ?_ | refine .rd ?_ | refine .block ?_ | refine .scope ?_ | refine .skip ?_ | refine .label ?_ | refine .exit ?_ | refine .ret ?_
            | refine .ct ?_ | refine .cf ?_ | refine .cy ?_ | refine .cn ?_ | (refine .cond rfl ?_ ?_ <;> intro hc)
            | refine A.nil_seq ?_ | refine .nl ?_ | refine .dd ?_ | refine .ys ?_ | refine .no ?_ | (refine A.guard rfl ?_ ?_ <;> intro hc)
            | refine .lb ?_ | refine .ln ?_ | refine .ls ?_ | refine .pv ?_ | refine .ix ?_ | refine .pt ?_ | refine .pf ?_ | refine .bx ?_ | refine .al ?_ | refine .st ?_ | refine .ad ?_ | refine .sb ?_ | refine .mf ?_ | refine .cl ?_ | refine .cw ?_ | refine .ck ?_
            | refine A.call rfl hw (WeakL.refl _) ?_ | refine A.slice_s (wholeN s) s.length rfl rfl rfl rfl rfl rfl rfl (by omega) (by omega) (by rw [List.take_length]) ?_ | refine A.slice_s (wholeN s + 1) s.length rfl rfl rfl rfl rfl rfl rfl (by omega) (by omega) (by rw [List.take_length]) ?_ | refine A.call rfl hp (WeakL.refl _) ?_ | refine A.call rfl hd (WeakL.refl _) ?_ | refine A.call rfl hq (WeakL.refl _) ?_ | fail
          refine Fin.two rfl rfl (Weak.eq ?_)
          rw [if_neg c3]; rfl
      · rw [if_neg c2]
        have e2 : decide ((digs (s.drop (wholeN s + 1)) : Int) > 0) = true := by simp only [decide_eq_true_eq]; omega
        have hq := tPower (s.drop (wholeN s + 1 + digs (s.drop (wholeN s + 1)))) (by rw [List.length_drop]; omega)
        have hql := powN_le (s.drop (wholeN s + 1 + digs (s.drop (wholeN s + 1))))
        rw [List.length_drop] at hql
        by_cases c3 : powN (s.drop (wholeN s + 1 + digs (s.drop (wholeN s + 1)))) = 0
        · have e3 : decide ((powN (s.drop (wholeN s + 1 + digs (s.drop (wholeN s + 1)))) : Int) > 0) = false := by simp only [decide_eq_false_iff_not]; omega
          repeat' first
            | refine .seq ?_ | refine .rg ?_ | refine .rd ?_ | refine .block ?_ | refine .scope ?_ | refine .skip ?_ | refine .label ?_ | refine .exit ?_ | refine .ret ?_
            | refine .ct ?_ | refine .cf ?_ | refine .cy ?_ | refine .cn ?_ | (refine .cond rfl ?_ ?_ <;> intro hc)
            | refine A.nil_seq ?_ | refine .nl ?_ | refine .dd ?_ | refine .ys ?_ | refine .no ?_ | (refine A.guard rfl ?_ ?_ <;> intro hc)
            | refine .lb ?_ | refine .ln ?_ | refine .ls ?_ | refine .pv ?_ | refine .ix ?_ | refine .pt ?_ | refine .pf ?_ | refine .bx ?_ | refine .al ?_ | refine .st ?_ | refine .ad ?_ | refine .sb ?_ | refine .mf ?_ | refine .cl ?_ | refine .cw ?_ | refine .ck ?_
            | refine A.call rfl hw (WeakL.refl _) ?_ | refine A.slice_s (wholeN s) s.length rfl rfl rfl rfl rfl rfl rfl (by omega) (by omega) (by rw [List.take_length]) ?_ | refine A.slice_s (wholeN s + 1) s.length rfl rfl rfl rfl rfl rfl rfl (by omega) (by omega) (by rw [List.take_length]) ?_ | refine A.slice_s (wholeN s + 1 + digs (s.drop (wholeN s + 1))) s.length rfl rfl rfl rfl rfl rfl rfl (by omega) (by omega) (by rw [List.take_length]) ?_ | refine A.call rfl hp (WeakL.refl _) ?_ | refine A.call rfl hd (WeakL.refl _) ?_ | refine A.call rfl hq (WeakL.refl _) ?_ | fail
          refine Fin.two rfl rfl (Weak.eq ?_)
          rw [if_pos c3]; rfl
        · have e3 : decide ((powN (s.drop (wholeN s + 1 + digs (s.drop (wholeN s + 1)))) : Int) > 0) = true := by simp only [decide_eq_true_eq]; omega
          repeat' first
            | refine .seq ?_ | refine .rg ?_ | refine .rd ?_ | refine .block ?_ | refine .scope ?_ | refine .skip ?_ | refine .label ?_ | refine .exit ?_ | refine .ret ?_
            | refine .ct ?_ | refine .cf ?_ | refine .cy ?_ | refine .cn ?_ | (refine .cond rfl ?_ ?_ <;> intro hc)
            | refine A.nil_seq ?_ | refine .nl ?_ | refine .dd ?_ | refine .ys ?_ | refine .no ?_ | (refine A.guard rfl ?_ ?_ <;> intro hc)
            | refine .lb ?_ | refine .ln ?_ | refine .ls ?_ | refine .pv ?_ | refine .ix ?_ | refine .pt ?_ | refine .pf ?_ | refine .bx ?_ | refine .al ?_ | refine .st ?_ | refine .ad ?_ | refine .sb ?_ | refine .mf ?_ | refine .cl ?_ | refine .cw ?_ | refine .ck ?_
            | refine A.call rfl hw (WeakL.refl _) ?_ | refine A.slice_s (wholeN s) s.length rfl rfl rfl rfl rfl rfl rfl (by omega) (by omega) (by rw [List.take_length]) ?_ | refine A.slice_s (wholeN s + 1) s.length rfl rfl rfl rfl rfl rfl rfl (by omega) (by omega) (by rw [List.take_length]) ?_ | refine A.slice_s (wholeN s + 1 + digs (s.drop (wholeN s + 1))) s.length rfl rfl rfl rfl rfl rfl rfl (by omega) (by omega) (by rw [List.take_length]) ?_ | refine A.call rfl hp (WeakL.refl _) ?_ | refine A.call rfl hd (WeakL.refl _) ?_ | refine A.call rfl hq (WeakL.refl _) ?_ | fail
          refine Fin.two rfl rfl (Weak.eq ?_)
          rw [if_neg c3]; rfl
    · rw [if_neg c1]
      have c1' : pfx [46] (s.drop (wholeN s)) = false := by simpa using c1
      have hq := tPower (s.drop (wholeN s)) (by rw [List.length_drop]; omega)
      have hql := powN_le (s.drop (wholeN s))
      rw [List.length_drop] at hql
      by_cases c3 : powN (s.drop (wholeN s)) = 0
      · have e3 : decide ((powN (s.drop (wholeN s)) : Int) > 0) = false := by simp only [decide_eq_false_iff_not]; omega
        repeat' first
          | refine .seq ?_ | refine .rg ?_ | refine .rd ?_ | refine .block ?_ | refine .scope ?_ | refine .skip ?_ | refine .label ?_ | refine .exit ?_ | refine .ret ?_
          | refine .ct ?_ | refine .cf ?_ | refine .cy ?_ | refine .cn ?_ | (refine .cond rfl ?_ ?_ <;> intro hc)
          | refine A.nil_seq ?_ | refine .nl ?_ | refine .dd ?_ | refine .ys ?_ | refine .no ?_ | (refine A.guard rfl ?_ ?_ <;> intro hc)
          | refine .lb ?_ | refine .ln ?_ | refine .ls ?_ | refine .pv ?_ | refine .ix ?_ | refine .pt ?_ | refine .pf ?_ | refine .bx ?_ | refine .al ?_ | refine .st ?_ | refine .ad ?_ | refine .sb ?_ | refine .mf ?_ | refine .cl ?_ | refine .cw ?_ | refine .ck ?_
          | refine A.call rfl hw (WeakL.refl _) ?_ | refine A.slice_s (wholeN s) s.length rfl rfl rfl rfl rfl rfl rfl (by omega) (by omega) (by rw [List.take_length]) ?_ | refine A.call rfl hp (WeakL.refl _) ?_ | refine A.call rfl hq (WeakL.refl _) ?_ | fail
        refine Fin.two rfl rfl (Weak.eq ?_)
        rw [if_pos c3]
      · have e3 : decide ((powN (s.drop (wholeN s)) : Int) > 0) = true := by simp only [decide_eq_true_eq]; omega
        repeat' first
          | refine .seq ?_ | refine .rg ?_ | refine .rd ?_ | refine .block ?_ | refine .scope ?_ | refine .skip ?_ | refine .label ?_ | refine .exit ?_ | refine .ret ?_
          | refine .ct ?_ | refine .cf ?_ | refine .cy ?_ | refine .cn ?_ | (refine .cond rfl ?_ ?_ <;> intro hc)
          | refine A.nil_seq ?_ | refine .nl ?_ | refine .dd ?_ | refine .ys ?_ | refine .no ?_ | (refine A.guard rfl ?_ ?_ <;> intro hc)
          | refine .lb ?_ | refine .ln ?_ | refine .ls ?_ | refine .pv ?_ | refine .ix ?_ | refine .pt ?_ | refine .pf ?_ | refine .bx ?_ | refine .al ?_ | refine .st ?_ | refine .ad ?_ | refine .sb ?_ | refine .mf ?_ | refine .cl ?_ | refine .cw ?_ | refine .ck ?_
          | refine A.call rfl hw (WeakL.refl _) ?_ | refine A.slice_s (wholeN s) s.length rfl rfl rfl rfl rfl rfl rfl (by omega) (by omega) (by rw [List.take_length]) ?_ | refine A.call rfl hp (WeakL.refl _) ?_ | refine A.call rfl hq (WeakL.refl _) ?_ | fail
        refine Fin.two rfl rfl (Weak.eq ?_)
        rw [if_neg c3]; rfl
/-- Which number a text is. -/
def numOf (s : Str) : Int := if (numK s).1 = s.length then (numK s).2 else 0
theorem tNumber (s : Str) (hs : s.length ≤ 4611686018427387904) : PFn Tryz.prog 107 [.str s] (.int .i64 (numOf s)) := by
  refine AFn.plain rfl rfl (AFn.enter [2] Tryz.func107 rfl rfl rfl rfl rfl (by decide) ?_)
  have hn := tnumber s hs
  unfold numOf
  by_cases c : (numK s).1 = s.length
  · have e : (((numK s).1 : Int) != (s.length : Int)) = false := by rw [c]; simp
    repeat' first
      | refine .seq ?_ | refine .rg ?_ | refine .rd ?_ | refine .block ?_ | refine .scope ?_ | refine .skip ?_ | refine .label ?_ | refine .exit ?_ | refine .ret ?_
      | refine .ct ?_ | refine .cf ?_ | refine .cy ?_ | refine .cn ?_ | (refine .cond rfl ?_ ?_ <;> intro hc)
      | refine A.nil_seq ?_ | refine .nl ?_ | refine .dd ?_ | refine .ys ?_ | refine .no ?_ | (refine A.guard rfl ?_ ?_ <;> intro hc)
      | refine .lb ?_ | refine .ln ?_ | refine .ls ?_ | refine .pv ?_ | refine .ix ?_ | refine .pt ?_ | refine .pf ?_ | refine .bx ?_ | refine .al ?_ | refine .st ?_ | refine .ad ?_ | refine .sb ?_ | refine .mf ?_ | refine .cl ?_ | refine .cw ?_ | refine .ck ?_
      | refine A.call rfl hn (WeakL.refl _) ?_ | fail
    refine Fin.ret1 rfl (Weak.eq ?_)
    rw [if_pos c]
  · have e : (((numK s).1 : Int) != (s.length : Int)) = true := by simp; omega
    repeat' first
      | refine .seq ?_ | refine .rg ?_ | refine .rd ?_ | refine .block ?_ | refine .scope ?_ | refine .skip ?_ | refine .label ?_ | refine .exit ?_ | refine .ret ?_
      | refine .ct ?_ | refine .cf ?_ | refine .cy ?_ | refine .cn ?_ | (refine .cond rfl ?_ ?_ <;> intro hc)
      | refine A.nil_seq ?_ | refine .nl ?_ | refine .dd ?_ | refine .ys ?_ | refine .no ?_ | (refine A.guard rfl ?_ ?_ <;> intro hc)
      | refine .lb ?_ | refine .ln ?_ | refine .ls ?_ | refine .pv ?_ | refine .ix ?_ | refine .pt ?_ | refine .pf ?_ | refine .bx ?_ | refine .al ?_ | refine .st ?_ | refine .ad ?_ | refine .sb ?_ | refine .mf ?_ | refine .cl ?_ | refine .cw ?_ | refine .ck ?_
      | refine A.call rfl hn (WeakL.refl _) ?_ | fail
    refine Fin.ret1 rfl (Weak.eq ?_)
    rw [if_neg c]
theorem vWhole (s : Str) (hs : s.length ≤ 281474976710656) : PFn Tryz.prog 108 [.str s] (.tup [.int .i64 (intOf s), .bool (intIs s && (numOf s == 3))]) := by
  refine AFn.plain rfl rfl (AFn.enter [2, 3] Tryz.func108 rfl rfl rfl rfl rfl (by decide) ?_)
  have hn := tNumber s (by omega)
  have hp := scParse s hs
  by_cases c : intIs s = true
  · have e : intErr s = .nili := by
      unfold intIs at c; unfold intErr
      cases h : Lib.parseIntB 64 s <;> simp_all
    rw [e] at hp
    repeat' first
      | refine .seq ?_ | refine .rg ?_ | refine .rd ?_ | refine .block ?_ | refine .scope ?_ | refine .skip ?_ | refine .label ?_ | refine .exit ?_ | refine .ret ?_
      | refine .ct ?_ | refine .cf ?_ | refine .cy ?_ | refine .cn ?_ | (refine .cond rfl ?_ ?_ <;> intro hc)
      | refine A.nil_seq ?_ | refine .nl ?_ | refine .dd ?_ | refine .ys ?_ | refine .no ?_ | (refine A.guard rfl ?_ ?_ <;> intro hc)
      | refine .lb ?_ | refine .ln ?_ | refine .ls ?_ | refine .pv ?_ | refine .ix ?_ | refine .pt ?_ | refine .pf ?_ | refine .bx ?_ | refine .al ?_ | refine .st ?_ | refine .ad ?_ | refine .sb ?_ | refine .mf ?_ | refine .cl ?_ | refine .cw ?_ | refine .ck ?_
      | refine A.call rfl hp (WeakL.refl _) ?_ | refine A.call rfl hn (WeakL.refl _) ?_ | refine A.eqnil rfl rfl rfl rfl ?_ | fail
    refine Fin.two rfl rfl (Weak.eq ?_)
    rw [c]; rfl
  · have e : intErr s = .iface 174 .undef := by
      unfold intIs at c; unfold intErr
      cases h : Lib.parseIntB 64 s <;> simp_all
    have c' : intIs s = false := by simpa using c
    rw [e] at hp
    repeat' first
      | refine .seq ?_ | refine .rg ?_ | refine .rd ?_ | refine .block ?_ | refine .scope ?_ | refine .skip ?_ | refine .label ?_ | refine .exit ?_ | refine .ret ?_
      | refine .ct ?_ | refine .cf ?_ | refine .cy ?_ | refine .cn ?_ | (refine .cond rfl ?_ ?_ <;> intro hc)
      | refine A.nil_seq ?_ | refine .nl ?_ | refine .dd ?_ | refine .ys ?_ | refine .no ?_ | (refine A.guard rfl ?_ ?_ <;> intro hc)
      | refine .lb ?_ | refine .ln ?_ | refine .ls ?_ | refine .pv ?_ | refine .ix ?_ | refine .pt ?_ | refine .pf ?_ | refine .bx ?_ | refine .al ?_ | refine .st ?_ | refine .ad ?_ | refine .sb ?_ | refine .mf ?_ | refine .cl ?_ | refine .cw ?_ | refine .ck ?_
      | refine A.call rfl hp (WeakL.refl _) ?_ | refine A.call rfl hn (WeakL.refl _) ?_ | refine A.eqnil rfl rfl rfl rfl ?_ | fail
    refine Fin.two rfl rfl (Weak.eq ?_)
    rw [c']; rfl
def numB (s : Str) : Bool := numOf s == 4 || numOf s == 3 && !(intIs s && (numOf s == 3))
theorem vnum (s : Str) (hs : s.length ≤ 281474976710656) : PFn Tryz.prog 98 [.str s] (.bool (numB s)) := by
  refine AFn.plain rfl rfl (AFn.enter [2] Tryz.func98 rfl rfl rfl rfl rfl (by decide) ?_)
  have hn := tNumber s (by omega)
  have hw := vWhole s hs
  unfold numB
  repeat' first
    | refine .seq ?_ | refine .rg ?_ | refine .rd ?_ | refine .block ?_ | refine .scope ?_ | refine .skip ?_ | refine .label ?_ | refine .exit ?_ | refine .ret ?_
    | refine .ct ?_ | refine .cf ?_ | refine .cy ?_ | refine .cn ?_ | (refine .cond rfl ?_ ?_ <;> intro hc)
    | refine A.nil_seq ?_ | refine .nl ?_ | refine .dd ?_ | refine .ys ?_ | refine .no ?_ | (refine A.guard rfl ?_ ?_ <;> intro hc)
    | refine .lb ?_ | refine .ln ?_ | refine .ls ?_ | refine .pv ?_ | refine .ix ?_ | refine .pt ?_ | refine .pf ?_ | refine .bx ?_ | refine .al ?_ | refine .st ?_ | refine .ad ?_ | refine .sb ?_ | refine .mf ?_ | refine .cl ?_ | refine .cw ?_ | refine .ck ?_
    | refine A.call rfl hn (WeakL.refl _) ?_ | refine A.call rfl hw (WeakL.refl _) ?_ | fail
  all_goals
    refine Fin.ret1 rfl (Weak.eq (congrArg AV.bool ?_))
    simp_all
def resB (s : Str) : Bool := s == [116, 114, 117, 101] || s == [102, 97, 108, 115, 101] || s == [110, 117, 108, 108]
theorem vreserved (s : Str) : PFn Tryz.prog 99 [.str s] (.bool (resB s)) := by
  refine AFn.plain rfl rfl (AFn.enter [2] Tryz.func99 rfl rfl rfl rfl rfl (by decide) ?_)
  unfold resB
  repeat' first
    | refine .seq ?_ | refine .rg ?_ | refine .rd ?_ | refine .block ?_ | refine .scope ?_ | refine .skip ?_ | refine .label ?_ | refine .exit ?_ | refine .ret ?_
    | refine .ct ?_ | refine .cf ?_ | refine .cy ?_ | refine .cn ?_ | (refine .cond rfl ?_ ?_ <;> intro hc)
    | refine A.nil_seq ?_ | refine .nl ?_ | refine .dd ?_ | refine .ys ?_ | refine .no ?_ | (refine A.guard rfl ?_ ?_ <;> intro hc)
    | refine .lb ?_ | refine .ln ?_ | refine .ls ?_ | refine .pv ?_ | refine .ix ?_ | refine .pt ?_ | refine .pf ?_ | refine .bx ?_ | refine .al ?_ | refine .st ?_ | refine .ad ?_ | refine .sb ?_ | refine .mf ?_ | refine .cl ?_ | refine .cw ?_ | refine .ck ?_ | fail
  all_goals
    refine Fin.ret1 rfl (Weak.eq (congrArg AV.bool ?_))
    simp_all
end Go.Proofs.YtijlmchfepjjkaaGreatDoor
