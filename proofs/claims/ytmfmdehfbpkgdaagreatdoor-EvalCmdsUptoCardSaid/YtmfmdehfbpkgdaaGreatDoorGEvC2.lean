/-
  Contracts and plain facts for a law, joined.
-/
import Derived.Test.YtmfmdehfbpkgdaaGreatDoorAvGo
import Derived.Test.YtmfmdehfbpkgdaaGreatDoorAvMap
import Derived.Test.YtmfmdehfbpkgdaaGreatDoorGEvC1
import Derived.Test.YtmfmdehfbpkgdaaGreatDoorAvTab
import Derived.Test.YtmfmdehfbpkgdaaGreatDoorShelf
set_option maxRecDepth 100000
set_option maxHeartbeats 16000000
set_option linter.unusedVariables false
set_option linter.unusedSimpArgs false
set_option linter.unusedSectionVars false
namespace Go.Av
open Go
variable [Globals]
structure Hide (Q : Prop) : Prop where
  val : Q
theorem HCode.go {P : Program} [Lay P] {N : Nat} {D : List Deferred} {c : Code} {K : AX → Slots → St → Prop} {s : Slots} {σ : St} {Q : Prop} (q : Q)
    (h : Hide Q → HCode P N D c K s σ := by intro q; (repeat' first | refine .seq ?_ | refine .rg ?_ | refine .rd ?_ | refine .block ?_ | refine .scope ?_ | refine .skip ?_ | refine .label ?_ | refine .exit ?_ | refine .ret ?_ | refine .ct ?_ | refine .cf ?_ | refine .cy ?_ | refine .cn ?_ | (refine .cond rfl ?_ ?_ <;> intro hc) | refine A.nil_seq ?_ | refine .nl ?_ | refine .dd ?_ | refine .ys ?_ | refine .no ?_ | (refine A.guard rfl ?_ ?_ <;> intro hc) | refine .lb ?_ | refine .ln ?_ | refine .ls ?_ | refine .pv ?_ | refine .ix ?_ | refine .pt ?_ | refine .pf ?_ | refine .bx ?_ | refine .al ?_ | refine .st ?_ | refine .ad ?_ | refine .sb ?_ | refine .mf ?_ | refine .cl ?_ | refine .cw ?_ | refine .ck ?_ | fail); exact q.val) : HCode P N D c K s σ := h ⟨q⟩
theorem AOps.go {P : Program} [Lay P] {all : Array Oper} {draw : Bool} {l : List Oper} {K : AX → Slots → St → Prop} {acc : List Tag} {s : Slots} {σ : St} {Q : Prop} (q : Q)
    (h : Hide Q → AOps P all draw K l acc s σ := by intro q; (repeat' first | refine .seq ?_ | refine .rg ?_ | refine .rd ?_ | refine .block ?_ | refine .scope ?_ | refine .skip ?_ | refine .label ?_ | refine .exit ?_ | refine .ret ?_ | refine .ct ?_ | refine .cf ?_ | refine .cy ?_ | refine .cn ?_ | (refine .cond rfl ?_ ?_ <;> intro hc) | refine A.nil_seq ?_ | refine .nl ?_ | refine .dd ?_ | refine .ys ?_ | refine .no ?_ | (refine A.guard rfl ?_ ?_ <;> intro hc) | refine .lb ?_ | refine .ln ?_ | refine .ls ?_ | refine .pv ?_ | refine .ix ?_ | refine .pt ?_ | refine .pf ?_ | refine .bx ?_ | refine .al ?_ | refine .st ?_ | refine .ad ?_ | refine .sb ?_ | refine .mf ?_ | refine .cl ?_ | refine .cw ?_ | refine .ck ?_ | fail); exact q.val) : AOps P all draw K l acc s σ := h ⟨q⟩
theorem HCode.gob {P : Program} [Lay P] {N : Nat} {D : List Deferred} {c : Code} {K : AX → Slots → St → Prop} {s : Slots} {σ : St} {Q : Prop} (q : Q)
    (h : Hide Q → HCode P N D c K s σ := by intro q; (repeat' first | refine .br ?_ | refine .seq ?_ | refine .rg ?_ | refine .rd ?_ | refine .block ?_ | refine .scope ?_ | refine .skip ?_ | refine .label ?_ | refine .exit ?_ | refine .ret ?_ | refine .ct ?_ | refine .cf ?_ | refine .cy ?_ | refine .cn ?_ | (refine .cond rfl ?_ ?_ <;> intro hc) | refine A.nil_seq ?_ | refine .nl ?_ | refine .dd ?_ | refine .ys ?_ | refine .no ?_ | (refine A.guard rfl ?_ ?_ <;> intro hc) | refine .lb ?_ | refine .ln ?_ | refine .ls ?_ | refine .pv ?_ | refine .ix ?_ | refine .pt ?_ | refine .pf ?_ | refine .bx ?_ | refine .al ?_ | refine .st ?_ | refine .ad ?_ | refine .sb ?_ | refine .mf ?_ | refine .cl ?_ | refine .cw ?_ | refine .ck ?_ | fail); exact q.val) : HCode P N D c K s σ := h ⟨q⟩
theorem HCode.s1 {P : Program} [Lay P] {N : Nat} {D : List Deferred} {c : Code} {K : AX → Slots → St → Prop} {s : Slots} {σ : St} {Q : Prop} (q : Q)
    (h : Hide Q → HCode P N D c K s σ := by intro q; (first | refine .seq ?_ | refine .rg ?_ | refine .rd ?_ | refine .block ?_ | refine .scope ?_ | refine .skip ?_ | refine .label ?_ | refine .exit ?_ | refine .ret ?_ | refine .ct ?_ | refine .cf ?_ | refine .cy ?_ | refine .cn ?_ | refine A.nil_seq ?_ | refine .nl ?_ | refine .dd ?_ | refine .ys ?_ | refine .no ?_ | refine .lb ?_ | refine .ln ?_ | refine .ls ?_ | refine .pv ?_ | refine .ix ?_ | refine .pt ?_ | refine .pf ?_ | refine .bx ?_ | refine .al ?_ | refine .st ?_ | refine .ad ?_ | refine .sb ?_ | refine .mf ?_ | refine .cl ?_ | refine .cw ?_ | refine .ck ?_); exact q.val) : HCode P N D c K s σ := h ⟨q⟩
theorem AOps.s1 {P : Program} [Lay P] {all : Array Oper} {draw : Bool} {l : List Oper} {K : AX → Slots → St → Prop} {acc : List Tag} {s : Slots} {σ : St} {Q : Prop} (q : Q)
    (h : Hide Q → AOps P all draw K l acc s σ := by intro q; (first | refine .seq ?_ | refine .rg ?_ | refine .rd ?_ | refine .block ?_ | refine .scope ?_ | refine .skip ?_ | refine .label ?_ | refine .exit ?_ | refine .ret ?_ | refine .ct ?_ | refine .cf ?_ | refine .cy ?_ | refine .cn ?_ | refine A.nil_seq ?_ | refine .nl ?_ | refine .dd ?_ | refine .ys ?_ | refine .no ?_ | refine .lb ?_ | refine .ln ?_ | refine .ls ?_ | refine .pv ?_ | refine .ix ?_ | refine .pt ?_ | refine .pf ?_ | refine .bx ?_ | refine .al ?_ | refine .st ?_ | refine .ad ?_ | refine .sb ?_ | refine .mf ?_ | refine .cl ?_ | refine .cw ?_ | refine .ck ?_); exact q.val) : AOps P all draw K l acc s σ := h ⟨q⟩
theorem HCode.q {P : Program} [Lay P] {N : Nat} {D : List Deferred} {x y : Code} {K : AX → Slots → St → Prop} {s : Slots} {σ : St} {c : Operand} {b : Bool} (ht : b = true → HCode P N D x K s σ) (hf : b = false → HCode P N D y K s σ) (hc : ev s c = .bool b := by exact rfl) : HCode P N D (.cond c x y) K s σ := HCode.cond hc ht hf
theorem AOps.q {P : Program} [Lay P] {all : Array Oper} {draw : Bool} {K : AX → Slots → St → Prop} {rest : List Oper} {acc : List Tag} {s : Slots} {σ : St} {dst : Option Tmp} {op : Op} {ty : TypeId} {pos : String} {af : Array Edge} {j : Nat} {want b : Bool} (k1 : b = want → AOps P all draw K (⟨dst, op, ty, pos, af, none⟩ :: rest) acc s σ)
    (k0 : b = (!want) → AOps P all draw K rest (.pure :: acc) (putS dst (.tup []) s) σ) (h : yv all s j = some (.bool b) := by exact rfl) : AOps P all draw K (⟨dst, op, ty, pos, af, some (j, want)⟩ :: rest) acc s σ := A.guard h k1 k0
theorem AFn.en {P : Program} [Lay P] {f : FuncId} {fn : Func} {c : Code} {args : List AV} {σ : St} {post : AEnd → St → Prop} (ts : List Nat) {N : Nat} (hf : P.funcs[f]? = some fn) (h : HCode P N [] c (fin ts post) (argSlots 0 args) σ) (hb : fn.body = some c := by exact rfl) (hN : fn.ntmps = N := by exact rfl)
    (hname : (fn.name == "runtime.NumGoroutine") = false := by exact rfl) (hargs : Nat.ble args.length N = true := by exact rfl) (hres : fn.results = (ts.map ResultVar.tmp).toArray := by exact rfl) (hn : ts.length ≤ 6 := by decide) : AFn P f args σ post := AFn.enter ts hf hb hN hname hargs hres hn h
theorem AFn.eR {P : Program} [Lay P] {f : FuncId} {fn : Func} {c : Code} {args : List AV} {σ : St} {post : AEnd → St → Prop} (rs : List ResultVar) {N : Nat} (hf : P.funcs[f]? = some fn) (h : HCode P N [] c (finR P rs post) (argSlots 0 args) σ) (hb : fn.body = some c := by exact rfl) (hN : fn.ntmps = N := by exact rfl)
    (hname : (fn.name == "runtime.NumGoroutine") = false := by exact rfl) (hargs : Nat.ble args.length N = true := by exact rfl) (hres : fn.results = rs.toArray := by exact rfl) : AFn P f args σ post := AFn.enterR rs hf hb hN hname hargs hres h
theorem Fin.r0 {t : Nat} {s : Slots} {r : AV} (h : lk? s t = some r := by exact rfl) : ∃ v', AEnd.ret (resAV s [t]) = .ret v' ∧ Weak v' r := Fin.ret1 h (Weak.refl _)
theorem Fin.rb {t : Nat} {s : Slots} {b r : Bool} (hr : b = r) (h : lk? s t = some (.bool b) := by exact rfl) : ∃ v', AEnd.ret (resAV s [t]) = .ret v' ∧ Weak v' (.bool r) := Fin.ret1 h (Weak.eq (congrArg AV.bool hr))
theorem FinR.r0 {P : Program} [Lay P] {rs : List ResultVar} {s : Slots} {σ : St} {r : AV} (h : resK? P s σ rs packAV = some r := by exact rfl) : ∃ v1, resK? P s σ rs packAV = some v1 ∧ ∃ v', AEnd.ret v1 = .ret v' ∧ Weak v' r := FinR.ret1 h (Weak.refl _)
end Go.Av
namespace Go.Proofs.YtmfmdehfbpkgdaaGreatDoor
open Go Go.Av
attribute [local irreducible] HCode AOps PFn AFn Av.Step TStep
def digC (c : UInt8) : Bool := decide (48 ≤ c.toNat) && decide (c.toNat ≤ 57)
def letC (c : UInt8) : Bool := decide (97 ≤ c.toNat) && decide (c.toNat ≤ 122) || decide (65 ≤ c.toNat) && decide (c.toNat ≤ 90) || decide (c.toNat = 95)
theorem lDigit (c : UInt8) : PFn Tryz.prog 175 [.int .u8 (c.toNat : Int)] (.bool (digC c)) := by
  refine AFn.plain rfl rfl (AFn.en [2] Tryz.func175 ?_)
  repeat' first | refine .s1 ?_ | (refine .q ?_ ?_ <;> intro hc) | fail
  all_goals
    refine Fin.rb ?_
    unfold digC; rw [Bool.eq_iff_iff]; simp at *; omega
theorem lLetter (c : UInt8) : PFn Tryz.prog 174 [.int .u8 (c.toNat : Int)] (.bool (letC c)) := by
  refine AFn.plain rfl rfl (AFn.en [2] Tryz.func174 ?_)
  repeat' first | refine .s1 ?_ | (refine .q ?_ ?_ <;> intro hc) | fail
  all_goals
    refine Fin.rb ?_
    unfold letC; rw [Bool.eq_iff_iff]; simp at *; omega
theorem get_str {s : Str} {k : Nat} (h : k < s.length) : s[k]? = some s[k] := by simp [h]
def nmC : Bool → Str → Bool
  | _, [] => true
  | z, c :: r => (letC c || (!z && digC c)) && nmC false r
def nameB (s : Str) : Bool := nmC true s && decide (s ≠ [])
theorem nmC_drop {z : Bool} {s : Str} {k : Nat} (h : k < s.length) : nmC z (s.drop k) = ((letC s[k] || (!z && digC s[k])) && nmC false (s.drop (k + 1))) := by
  rw [List.drop_eq_getElem_cons h, nmC]
theorem lName (s : Str) (hs : s.length ≤ 9223372036854775806) : PFn Tryz.prog 144 [.str s] (.bool (nameB s)) := by
  refine AFn.plain rfl rfl (AFn.en [2] Tryz.func144 ?_)
  refine .go ?_
  change HCode _ _ _ _ _ _ _
  refine HCode.loop (fun n σs σ => ∃ k : Nat, n = s.length - k ∧ k ≤ s.length ∧ nmC true s = nmC (k == 0) (s.drop k) ∧ σ = ⟨[], []⟩ ∧
    σs = [(6, .int .i64 k), (5, .int .i64 s.length), (0, .str s)])
    (s0 := [(6, .int .i64 (0 : Nat)), (5, .int .i64 s.length), (0, .str s)])
    ⟨rfl, rfl, rfl, trivial⟩ ⟨0, rfl, Nat.zero_le _, rfl, rfl, rfl⟩ ?_
  rintro n σs σ ⟨k, rfl, hk, hp, rfl, rfl⟩
  by_cases h1 : k < s.length
  · have d1 : decide ((k : Int) < (s.length : Int)) = true := by simp [h1]
    have x1 := get_str h1
    have hl := lLetter s[k]
    have hd := lDigit s[k]
    by_cases c1 : letC s[k] = true
    · have e1 : (!letC s[k]) = false := by rw [c1]; rfl
      repeat' first | refine .s1 ?_ | (refine .q ?_ ?_ <;> intro hc) | refine A.index_s rfl rfl rfl rfl rfl (by assumption) ?_ | refine A.call rfl hl (WeakL.refl _) ?_ | refine A.call rfl hd (WeakL.refl _) ?_ | fail
      refine ⟨s.length - (k + 1), by omega, [(6, .int .i64 ((k + 1 : Nat) : Int)), (5, .int .i64 s.length), (0, .str s)], ⟨rfl, rfl, rfl, trivial⟩, by simp [belowS, AV.low], rfl, k + 1, rfl, by omega, ?_, rfl, rfl⟩
      rw [hp, nmC_drop h1, c1]; rfl
    · have e1 : (!letC s[k]) = true := by simpa using c1
      by_cases c2 : k = 0
      · have e2 : ((k : Int) == 0) = true := by simp [c2]
        repeat' first | refine .s1 ?_ | (refine .q ?_ ?_ <;> intro hc) | refine A.index_s rfl rfl rfl rfl rfl (by assumption) ?_ | refine A.call rfl hl (WeakL.refl _) ?_ | refine A.call rfl hd (WeakL.refl _) ?_ | fail
        refine Fin.rb ?_
        unfold nameB
        rw [hp, nmC_drop h1]; subst c2; simp [c1]
      · have e2 : ((k : Int) == 0) = false := by simp [c2]
        have e3 : (k == 0) = false := by simp [c2]
        by_cases c3 : digC s[k] = true
        · have e4 : (!digC s[k]) = false := by rw [c3]; rfl
          repeat' first | refine .s1 ?_ | (refine .q ?_ ?_ <;> intro hc) | refine A.index_s rfl rfl rfl rfl rfl (by assumption) ?_ | refine A.call rfl hl (WeakL.refl _) ?_ | refine A.call rfl hd (WeakL.refl _) ?_ | fail
          refine ⟨s.length - (k + 1), by omega, [(6, .int .i64 ((k + 1 : Nat) : Int)), (5, .int .i64 s.length), (0, .str s)], ⟨rfl, rfl, rfl, trivial⟩, by simp [belowS, AV.low], rfl, k + 1, rfl, by omega, ?_, rfl, rfl⟩
          rw [hp, nmC_drop h1, e3, c3]; simp
        · have e4 : (!digC s[k]) = true := by simpa using c3
          repeat' first | refine .s1 ?_ | (refine .q ?_ ?_ <;> intro hc) | refine A.index_s rfl rfl rfl rfl rfl (by assumption) ?_ | refine A.call rfl hl (WeakL.refl _) ?_ | refine A.call rfl hd (WeakL.refl _) ?_ | fail
          refine Fin.rb ?_
          unfold nameB
          rw [hp, nmC_drop h1, e3]; simp [c1, c3]
  · have d1 : decide ((k : Int) < (s.length : Int)) = false := by simp; omega
    refine .go ?_
    refine Fin.rb ?_
    unfold nameB
    rw [hp, List.drop_eq_nil_of_le (by omega), nmC]
    cases s <;> simp
def digs : Str → Nat
  | [] => 0
  | c :: s => if digC c = true then digs s + 1 else 0
theorem digs_le : ∀ s : Str, digs s ≤ s.length
  | [] => Nat.le_refl _
  | c :: s => by
    have := digs_le s
    unfold digs; split <;> simp <;> omega
theorem digs_drop {s : Str} {k : Nat} (h : k < s.length) : digs (s.drop k) = if digC s[k] = true then digs (s.drop (k + 1)) + 1 else 0 := by
  rw [List.drop_eq_getElem_cons h, digs]
theorem tDigits (s : Str) (hs : s.length ≤ 9223372036854775806) : PFn Tryz.prog 242 [.str s] (.int .i64 (digs s)) := by
  refine AFn.plain rfl rfl (AFn.en [2] Tryz.func242 ?_)
  refine .go ?_
  change HCode _ _ _ _ _ _ _
  refine HCode.loop (fun n σs σ => ∃ k : Nat, n = s.length - k ∧ k ≤ s.length ∧ digs s = k + digs (s.drop k) ∧ σ = ⟨[], []⟩ ∧ σs = [(3, .int .i64 k), (0, .str s)])
    (s0 := [(3, .int .i64 (0 : Nat)), (0, .str s)]) ⟨rfl, rfl, trivial⟩ ⟨0, rfl, Nat.zero_le _, by simp, rfl, rfl⟩ ?_
  rintro n σs σ ⟨k, rfl, hk, hp, rfl, rfl⟩
  by_cases h1 : k < s.length
  · have d1 : decide ((k : Int) < (s.length : Int)) = true := by simp [h1]
    have x1 := get_str h1
    have hd := lDigit s[k]
    by_cases c3 : digC s[k] = true
    · repeat' first | refine .s1 ?_ | (refine .q ?_ ?_ <;> intro hc) | refine A.index_s rfl rfl rfl rfl rfl (by assumption) ?_ | refine A.call rfl hd (WeakL.refl _) ?_ | fail
      refine ⟨s.length - (k + 1), by omega, [(3, .int .i64 ((k + 1 : Nat) : Int)), (0, .str s)], ⟨rfl, rfl, trivial⟩, by simp [belowS, AV.low], rfl, k + 1, rfl, by omega, ?_, rfl, rfl⟩
      rw [hp, digs_drop h1, if_pos c3]; omega
    · have c4 : digC s[k] = false := by simpa using c3
      repeat' first | refine .s1 ?_ | (refine .q ?_ ?_ <;> intro hc) | refine A.index_s rfl rfl rfl rfl rfl (by assumption) ?_ | refine A.call rfl hd (WeakL.refl _) ?_ | fail
      refine Fin.ret1 rfl (Weak.eq (congrArg (AV.int .i64) ?_))
      rw [hp, digs_drop h1, if_neg c3]; simp
  · have d1 : decide ((k : Int) < (s.length : Int)) = false := by simp; omega
    refine .go ?_
    refine Fin.ret1 rfl (Weak.eq (congrArg (AV.int .i64) ?_))
    rw [hp, List.drop_eq_nil_of_le (by omega), digs]; simp
def pfx (p s : Str) : Bool := decide (p.length ≤ s.length) && (s.take p.length == p)
theorem slPrefix (s p : Str) : PFn Tryz.prog 246 [.str s, .str p] (.bool (pfx p s)) := by
  refine AFn.plain rfl rfl (AFn.en [4] Tryz.func246 ?_)
  by_cases h1 : p.length ≤ s.length
  · have d1 : decide ((s.length : Int) ≥ (p.length : Int)) = true := by simp; omega
    have d2 : decide ((p.length : Int) ≤ (s.length : Int)) = true := by simp; omega
    repeat' first | refine .s1 ?_ | (refine .q ?_ ?_ <;> intro hc) | refine A.slice_s 0 p.length rfl rfl rfl rfl rfl rfl rfl (by omega) (by omega) rfl ?_ | fail
    refine Fin.rb ?_
    simp [pfx, h1]
  · have d1 : decide ((s.length : Int) ≥ (p.length : Int)) = false := by simp; omega
    have d2 : decide ((p.length : Int) ≤ (s.length : Int)) = false := by simp; omega
    refine .go ?_
    refine Fin.rb ?_
    simp [pfx, h1]
theorem hasPrefix (s p : Str) : PFn Tryz.prog 241 [.str s, .str p] (.bool (pfx p s)) := by
  have h := slPrefix s p
  refine AFn.plain rfl rfl (AFn.en [4] Tryz.func241 ?_)
  repeat' first | refine .s1 ?_ | (refine .q ?_ ?_ <;> intro hc) | refine A.call rfl h (WeakL.refl _) ?_ | fail
  exact Fin.r0
def wholeAt (s : Str) (n : Nat) : Nat := if digs (s.drop n) = 0 then 0 else if s[n]? = some 48 then n + 1 else n + digs (s.drop n)
def wholeN (s : Str) : Nat := if pfx [45] s = true then wholeAt s 1 else wholeAt s 0
theorem wholeAt_le {s : Str} {n : Nat} (h : n ≤ s.length) : wholeAt s n ≤ s.length := by
  have := digs_le (s.drop n)
  rw [List.length_drop] at this
  unfold wholeAt
  split
  · omega
  · split <;> omega
theorem pfx1 {c : UInt8} {s : Str} (h : pfx [c] s = true) : 1 ≤ s.length := by
  simp only [pfx, Bool.and_eq_true, decide_eq_true_eq] at h
  exact h.1
theorem wholeN_le (s : Str) : wholeN s ≤ s.length := by
  unfold wholeN
  split
  · exact wholeAt_le (pfx1 (by assumption))
  · exact wholeAt_le (Nat.zero_le _)
theorem tWhole (s : Str) (hs : s.length ≤ 9223372036854775806) : PFn Tryz.prog 240 [.str s] (.int .i64 (wholeN s)) := by
  refine AFn.plain rfl rfl (AFn.en [2] Tryz.func240 ?_)
  have hp := hasPrefix s [45]
  by_cases c1 : pfx [45] s = true
  · have hn : 1 ≤ s.length := pfx1 c1
    have hd := tDigits (s.drop 1) (by rw [List.length_drop]; omega)
    have hle := digs_le (s.drop 1)
    rw [List.length_drop] at hle
    by_cases c2 : digs (s.drop 1) = 0
    · have e2 : ((digs (s.drop 1) : Int) == 0) = true := by rw [c2]; rfl
      repeat' first | refine .s1 ?_ | (refine .q ?_ ?_ <;> intro hc) | refine A.call rfl hp (WeakL.refl _) ?_ | refine A.slice_s 1 s.length rfl rfl rfl rfl rfl rfl rfl (by omega) (by omega) (by rw [List.take_length]) ?_ | refine A.call rfl hd (WeakL.refl _) ?_ | fail
      refine Fin.ret1 rfl (Weak.eq (congrArg (AV.int .i64) ?_))
      rw [wholeN, if_pos c1, wholeAt, if_pos c2]; rfl
    · have e2 : ((digs (s.drop 1) : Int) == 0) = false := beq_eq_false_iff_ne.2 (by omega)
      have hlt : 1 < s.length := by omega
      have x1 := get_str hlt
      by_cases c3 : s[1] = 48
      · have e3 : ((s[1].toNat : Int) == 48) = true := by rw [c3]; rfl
        repeat' first | refine .s1 ?_ | (refine .q ?_ ?_ <;> intro hc) | refine A.call rfl hp (WeakL.refl _) ?_ | refine A.slice_s 1 s.length rfl rfl rfl rfl rfl rfl rfl (by omega) (by omega) (by rw [List.take_length]) ?_ | refine A.call rfl hd (WeakL.refl _) ?_ | refine A.index_s (j := 1) rfl rfl rfl rfl rfl (by assumption) ?_ | fail
        refine Fin.ret1 rfl (Weak.eq (congrArg (AV.int .i64) ?_))
        rw [wholeN, if_pos c1, wholeAt, if_neg c2, x1, if_pos (congrArg some c3)]; rfl
      · have e3 : ((s[1].toNat : Int) == 48) = false := by
          have : s[1].toNat ≠ 48 := fun h => c3 (UInt8.toNat_inj.1 (h.trans rfl))
          simp; omega
        repeat' first | refine .s1 ?_ | (refine .q ?_ ?_ <;> intro hc) | refine A.call rfl hp (WeakL.refl _) ?_ | refine A.slice_s 1 s.length rfl rfl rfl rfl rfl rfl rfl (by omega) (by omega) (by rw [List.take_length]) ?_ | refine A.call rfl hd (WeakL.refl _) ?_ | refine A.index_s (j := 1) rfl rfl rfl rfl rfl (by assumption) ?_ | fail
        refine Fin.ret1 rfl (Weak.eq (congrArg (AV.int .i64) ?_))
        rw [wholeN, if_pos c1, wholeAt, if_neg c2, x1, if_neg (fun h => c3 (Option.some.inj h))]; omega
  · have c1' : pfx [45] s = false := by simpa using c1
    have hd := tDigits s hs
    have hle := digs_le s
    by_cases c2 : digs s = 0
    · have e2 : ((digs s : Int) == 0) = true := by simp [c2]
      repeat' first | refine .s1 ?_ | (refine .q ?_ ?_ <;> intro hc) | refine A.call rfl hp (WeakL.refl _) ?_ | refine A.slice_s 0 s.length rfl rfl rfl rfl rfl rfl rfl (by omega) (by omega) (by rw [List.take_length, List.drop_zero]) ?_ | refine A.call rfl hd (WeakL.refl _) ?_ | fail
      refine Fin.ret1 rfl (Weak.eq (congrArg (AV.int .i64) ?_))
      rw [wholeN, if_neg c1, wholeAt, List.drop_zero, if_pos c2]; rfl
    · have e2 : ((digs s : Int) == 0) = false := by simp [c2]
      have hlt : 0 < s.length := by omega
      have x1 := get_str hlt
      by_cases c3 : s[0] = 48
      · have e3 : ((s[0].toNat : Int) == 48) = true := by rw [c3]; rfl
        repeat' first | refine .s1 ?_ | (refine .q ?_ ?_ <;> intro hc) | refine A.call rfl hp (WeakL.refl _) ?_ | refine A.slice_s 0 s.length rfl rfl rfl rfl rfl rfl rfl (by omega) (by omega) (by rw [List.take_length, List.drop_zero]) ?_ | refine A.call rfl hd (WeakL.refl _) ?_ | refine A.index_s (j := 0) rfl rfl rfl rfl rfl (by assumption) ?_ | fail
        refine Fin.ret1 rfl (Weak.eq (congrArg (AV.int .i64) ?_))
        rw [wholeN, if_neg c1, wholeAt, List.drop_zero, if_neg c2, x1, if_pos (congrArg some c3)]; rfl
      · have e3 : ((s[0].toNat : Int) == 48) = false := by
          have : s[0].toNat ≠ 48 := fun h => c3 (UInt8.toNat_inj.1 (h.trans rfl))
          simp; omega
        repeat' first | refine .s1 ?_ | (refine .q ?_ ?_ <;> intro hc) | refine A.call rfl hp (WeakL.refl _) ?_ | refine A.slice_s 0 s.length rfl rfl rfl rfl rfl rfl rfl (by omega) (by omega) (by rw [List.take_length, List.drop_zero]) ?_ | refine A.call rfl hd (WeakL.refl _) ?_ | refine A.index_s (j := 0) rfl rfl rfl rfl rfl (by assumption) ?_ | fail
        refine Fin.ret1 rfl (Weak.eq (congrArg (AV.int .i64) ?_))
        rw [wholeN, if_neg c1, wholeAt, List.drop_zero, if_neg c2, x1, if_neg (fun h => c3 (Option.some.inj h))]; omega
def expAt (s : Str) (n : Nat) : Nat := if digs (s.drop n) = 0 then 0 else n + digs (s.drop n)
def powN (s : Str) : Nat :=
  if (s.getD 0 0).toNat = 101 ∨ (s.getD 0 0).toNat = 69 then
    (if 1 < s.length ∧ ((s.getD 1 0).toNat = 43 ∨ (s.getD 1 0).toNat = 45) then expAt s 2 else expAt s 1)
  else 0
theorem expAt_le {s : Str} {n : Nat} (h : n ≤ s.length) : expAt s n ≤ s.length := by
  have := digs_le (s.drop n)
  rw [List.length_drop] at this
  unfold expAt
  split <;> omega
theorem powN_le (s : Str) : powN s ≤ s.length := by
  unfold powN
  split
  · have h : 1 ≤ s.length := by
      cases s with
      | nil => simp_all
      | cons c s => simp
    split
    · exact expAt_le (by omega)
    · exact expAt_le h
  · omega
theorem getD_of {s : Str} {k : Nat} (h : k < s.length) : s.getD k 0 = s[k] := by simp [List.getD, h]
theorem tPower (s : Str) (hs : s.length ≤ 9223372036854775806) : PFn Tryz.prog 243 [.str s] (.int .i64 (powN s)) := by
  refine AFn.plain rfl rfl (AFn.en [2] Tryz.func243 ?_)
  by_cases h0 : s.length = 0
  · obtain rfl := List.eq_nil_of_length_eq_zero h0
    refine .go ?_
    refine Fin.ret1 rfl (Weak.eq (congrArg (AV.int .i64) ?_))
    rfl
  · have h0' : 0 < s.length := by omega
    have hne : (s == []) = false := by cases s <;> simp_all
    have x0 := get_str h0'
    have hd1 := tDigits (s.drop 1) (by rw [List.length_drop]; omega)
    have hle1 := digs_le (s.drop 1)
    rw [List.length_drop] at hle1
    have g0 := getD_of h0'
    by_cases h1 : 1 < s.length
    · have x1 := get_str h1
      have g1 := getD_of h1
      have d1 : decide ((s.length : Int) > 1) = true := by simp; omega
      have hd2 := tDigits (s.drop 2) (by rw [List.length_drop]; omega)
      have hle2 := digs_le (s.drop 2)
      rw [List.length_drop] at hle2
      repeat' first | refine .s1 ?_ | (refine .q ?_ ?_ <;> intro hc) | refine A.index_s (j := 0) rfl rfl rfl rfl rfl (by assumption) ?_ | refine A.index_s (j := 1) rfl rfl rfl rfl rfl (by assumption) ?_ | refine A.slice_s 1 s.length rfl rfl rfl rfl rfl rfl rfl (by omega) (by omega) (by rw [List.take_length]) ?_ | refine A.slice_s 2 s.length rfl rfl rfl rfl rfl rfl rfl (by omega) (by omega) (by rw [List.take_length]) ?_ | refine A.call rfl hd1 (WeakL.refl _) ?_ | refine A.call rfl hd2 (WeakL.refl _) ?_ | fail
      all_goals
        refine Fin.ret1 rfl (Weak.eq (congrArg (AV.int .i64) ?_))
        unfold powN expAt
        rw [g0, g1]
        simp [-List.drop_one] at *
        (repeat' split) <;> omega
    · have d1 : decide ((s.length : Int) > 1) = false := by simp; omega
      repeat' first | refine .s1 ?_ | (refine .q ?_ ?_ <;> intro hc) | refine A.index_s (j := 0) rfl rfl rfl rfl rfl (by assumption) ?_ | refine A.slice_s 1 s.length rfl rfl rfl rfl rfl rfl rfl (by omega) (by omega) (by rw [List.take_length]) ?_ | refine A.call rfl hd1 (WeakL.refl _) ?_ | fail
      all_goals
        refine Fin.ret1 rfl (Weak.eq (congrArg (AV.int .i64) ?_))
        unfold powN expAt
        rw [g0]
        simp [-List.drop_one] at *
        (repeat' split) <;> omega
end Go.Proofs.YtmfmdehfbpkgdaaGreatDoor
namespace Go.Av
open Go
section
variable [Globals]
variable {P : Program} {all : Array Oper} {draw : Bool} {K : AX → Slots → St → Prop} {rest : List Oper} {acc : List Tag} {s : Slots} {σ : St} {ty : TypeId} {pos : String} {af : Array Edge}
theorem run_eq_nili {T : TypeId} {ms : Array (String × TypeId)} (h : P.underlying T = some (.interface ms)) {u : Value} {b : Bool} (hu : (u = .nilIface ∧ b = true) ∨ (∃ t v, u = .iface t v) ∧ b = false) (n : Nat) (w : World) : (Op.equalIn (n + 1) T u .nilIface).run P w = .ok b w := by
  rcases hu with ⟨rfl, rfl⟩ | ⟨⟨t, v, rfl⟩, rfl⟩ <;> simp [Op.equalIn, run_underlying h, Result.andThen]
theorem A.eqnil [Lay P] {d : Tmp} {T U : TypeId} {x : Operand} {v : AV} {b : Bool} {ti : TI} (hT : ty? P T = some ti) (hk : ti.kind = .iface) (hx : ev? s x = some v) (hv : (match v with | .nili => some true | .iface _ _ => some false | _ => none) = some b) (k : AOps P all draw K rest (.pure :: acc) ((d, .bool b) :: s) σ) :
    AOps P all draw K (⟨some d, .binOp .eql T x (.const .nilIface) U, ty, pos, af, none⟩ :: rest) acc s σ :=
  A.step rfl (tpure fun g w a ho => by
    have h1 := op1 hx (by simp [Op.operands]) ho
    obtain ⟨info, dd, z0, t1, t2, t3, t4, _⟩ := (ty_ok hT).ex
    have hd : ∃ ms, dd = .interface ms := by rw [hk] at t3; cases dd <;> first | exact ⟨_, rfl⟩ | cases t3
    obtain ⟨ms, rfl⟩ := hd
    have ec : a.eval (.const .nilIface) = .nilIface := rfl
    refine ⟨.bool b, ?_, rfl⟩
    cases v with
    | nili =>
      cases hv
      have e : a.eval x = .nilIface := h1
      have h3 : (Op.equal T .nilIface .nilIface).run P w = .ok true w := run_eq_nili t2 (.inl ⟨rfl, rfl⟩) 9999 w
      simp [execOp, e, ec, eqGuard, Go.binOp, h3, Result.andThen]
    | iface t v =>
      cases hv
      obtain ⟨u, e, _⟩ := h1
      have h3 : (Op.equal T (.iface t u) .nilIface).run P w = .ok false w := run_eq_nili t2 (.inr ⟨⟨t, u, rfl⟩, rfl⟩) 9999 w
      simp [execOp, e, ec, eqGuard, Go.binOp, h3, Result.andThen]
    | _ => cases hv) k
end
end Go.Av
namespace Go.Proofs.YtmfmdehfbpkgdaaGreatDoor
open Go Go.Av
theorem Fin.two {t1 t2 : Nat} {s : Slots} {v1 v2 r : AV} (h1 : lk? s t1 = some v1) (h2 : lk? s t2 = some v2) (hw : Weak (.tup [v1, v2]) r) : ∃ v', AEnd.ret (resAV s [t1, t2]) = .ret v' ∧ Weak v' r :=
  ⟨_, rfl, by rw [show resAV s [t1, t2] = .tup [v1, v2] by unfold resAV; simp only [List.map_cons, List.map_nil, lk_of h1, lk_of h2]]; exact hw⟩
def intOf (s : Str) : Int := match Lib.parseIntB 64 s with
  | .ok v => v
  | .range => Lib.intSat 64 s
  | _ => 0
def intIs (s : Str) : Bool := match Lib.parseIntB 64 s with
  | .ok _ => true
  | _ => false
def intErr (s : Str) : AV := match Lib.parseIntB 64 s with
  | .ok _ => .nili
  | _ => .iface 320 .undef
theorem scParse (s : Str) (hs : s.length ≤ 281474976710656) : PFn Tryz.prog 239 [.str s, .int .i64 10, .int .i64 64] (.tup [.int .i64 (intOf s), intErr s]) := by
  refine PFn.ofBelow ⟨_, Tryz.func239, rfl, rfl⟩ rfl (fun im w vals him hgl hl => ?_)
  obtain ⟨v, rest, e, hv, v2, rest2, e2, hv2, v3, rest3, e3, hv3, hr⟩ := hl
  have hv' : v = .string ⟨s.toArray⟩ := hv
  have hv2' : v2 = .int .i64 10 := hv2
  have hv3' : v3 = .int .i64 64 := hv3
  have hr' : rest3 = [] := hr
  subst hv' hv2' hv3' hr' e3 e2
  obtain rfl : vals = #[.string ⟨s.toArray⟩, .int .i64 10, .int .i64 64] := by cases vals; simp_all
  have hsz : (⟨s.toArray⟩ : ByteArray).size = s.length := by simp [ByteArray.size]
  have h5 := GlobOk.rep (g := ⟨[], [], im⟩) hgl (p := (5, .iface 329 .undef)) (.tail _ (.tail _ (.tail _ (.head _))))
  have h6 := GlobOk.rep (g := ⟨[], [], im⟩) hgl (p := (6, .iface 329 .undef)) (.tail _ (.tail _ (.tail _ (.tail _ (.head _)))))
  obtain ⟨u5, h5⟩ := err_cell h5
  obtain ⟨u6, h6⟩ := err_cell h6
  cases hp : Lib.parseIntB 64 s with
  | ok x =>
    refine (Tryz.strconv_ParseInt_10_at64_ok ⟨s.toArray⟩ (by omega) x hp w).mono ?_
    rintro e w' ⟨rfl, hb⟩
    refine ⟨⟨_, rfl, ?_⟩, ?_⟩
    · unfold intOf intErr; rw [hp]
      exact ⟨_, rfl, _, _, rfl, rfl, _, _, rfl, rfl, rfl⟩
    · rcases hb with rfl | ⟨t, rfl⟩
      · exact Go.RowKit.Below.refl _ _
      · exact Lib.bytesWorld_below _ _ _
  | range =>
    refine (Tryz.strconv_ParseInt_10_at64_range ⟨s.toArray⟩ (by omega) hp _ w h6 (.inr ⟨_, _, rfl⟩)).mono ?_
    rintro e w' ⟨N, rfl, _, _, hb⟩
    refine ⟨⟨_, rfl, ?_⟩, hb⟩
    unfold intOf intErr; rw [hp]
    exact ⟨_, rfl, _, _, rfl, rfl, _, _, rfl, ⟨_, rfl, trivial⟩, rfl⟩
  | _ =>
    refine (Tryz.strconv_ParseInt_10_at64_syn ⟨s.toArray⟩ (by omega) (by simp only [hp]) _ w h5 (.inr ⟨_, _, rfl⟩)).mono ?_
    rintro e w' ⟨N, rfl, _, _, hb⟩
    refine ⟨⟨_, rfl, ?_⟩, hb⟩
    unfold intOf intErr; rw [hp]
    exact ⟨_, rfl, _, _, rfl, rfl, _, _, rfl, ⟨_, rfl, trivial⟩, rfl⟩
attribute [local irreducible] HCode AOps PFn AFn Av.Step TStep
def dotN (s : Str) (n : Nat) : Nat × Int := if pfx [46] (s.drop n) = true then (if digs (s.drop (n + 1)) = 0 then (n, 3) else (n + 1 + digs (s.drop (n + 1)), 4)) else (n, 3)
def numK (s : Str) : Nat × Int := if wholeN s = 0 then (0, 0) else if powN (s.drop (dotN s (wholeN s)).1) = 0 then dotN s (wholeN s) else ((dotN s (wholeN s)).1 + powN (s.drop (dotN s (wholeN s)).1), 4)
theorem tnumber (s : Str) (hs : s.length ≤ 4611686018427387904) : PFn Tryz.prog 238 [.str s] (.tup [.int .i64 (numK s).1, .int .i64 (numK s).2]) := by
  refine AFn.plain rfl rfl (AFn.en [2, 3] Tryz.func238 ?_)
  have hw := tWhole s (by omega)
  have hle := wholeN_le s
  unfold numK
  by_cases c0 : wholeN s = 0
  · have e0 : ((wholeN s : Int) == 0) = true := by rw [c0]; rfl
    repeat' first | refine .s1 ?_ | (refine .q ?_ ?_ <;> intro hc) | refine A.call rfl hw (WeakL.refl _) ?_ | fail
    refine Fin.two rfl rfl (Weak.eq ?_)
    rw [if_pos c0]; rfl
  · have e0 : ((wholeN s : Int) == 0) = false := beq_eq_false_iff_ne.2 (by omega)
    have hp := hasPrefix (s.drop (wholeN s)) [46]
    rw [if_neg c0]
    unfold dotN
    by_cases c1 : pfx [46] (s.drop (wholeN s)) = true
    · rw [if_pos c1]
      have hlt := pfx1 c1
      rw [List.length_drop] at hlt
      have hd := tDigits (s.drop (wholeN s + 1)) (by rw [List.length_drop]; omega)
      have hdl := digs_le (s.drop (wholeN s + 1))
      rw [List.length_drop] at hdl
      by_cases c2 : digs (s.drop (wholeN s + 1)) = 0
      · rw [if_pos c2]
        have e2 : decide ((digs (s.drop (wholeN s + 1)) : Int) > 0) = false := by simp only [decide_eq_false_iff_not]; omega
        have hq := tPower (s.drop (wholeN s)) (by rw [List.length_drop]; omega)
        have hql := powN_le (s.drop (wholeN s))
        rw [List.length_drop] at hql
        by_cases c3 : powN (s.drop (wholeN s)) = 0
        · have e3 : decide ((powN (s.drop (wholeN s)) : Int) > 0) = false := by simp only [decide_eq_false_iff_not]; omega
          repeat' first | refine .s1 ?_ | (refine .q ?_ ?_ <;> intro hc) | refine A.call rfl hw (WeakL.refl _) ?_ | refine A.slice_s (wholeN s) s.length rfl rfl rfl rfl rfl rfl rfl (by omega) (by omega) (by rw [List.take_length]) ?_ | refine A.slice_s (wholeN s + 1) s.length rfl rfl rfl rfl rfl rfl rfl (by omega) (by omega) (by rw [List.take_length]) ?_ | refine A.call rfl hp (WeakL.refl _) ?_ | refine A.call rfl hd (WeakL.refl _) ?_ | refine A.call rfl hq (WeakL.refl _) ?_ | fail
          refine Fin.two rfl rfl (Weak.eq ?_)
          rw [if_pos c3]
        · have e3 : decide ((powN (s.drop (wholeN s)) : Int) > 0) = true := by simp only [decide_eq_true_eq]; omega
          repeat' first | refine .s1 ?_ | (refine .q ?_ ?_ <;> intro hc) | refine A.call rfl hw (WeakL.refl _) ?_ | refine A.slice_s (wholeN s) s.length rfl rfl rfl rfl rfl rfl rfl (by omega) (by omega) (by rw [List.take_length]) ?_ | refine A.slice_s (wholeN s + 1) s.length rfl rfl rfl rfl rfl rfl rfl (by omega) (by omega) (by rw [List.take_length]) ?_ | refine A.call rfl hp (WeakL.refl _) ?_ | refine A.call rfl hd (WeakL.refl _) ?_ | refine A.call rfl hq (WeakL.refl _) ?_ | fail
          refine Fin.two rfl rfl (Weak.eq ?_)
          rw [if_neg c3]; rfl
      · rw [if_neg c2]
        have e2 : decide ((digs (s.drop (wholeN s + 1)) : Int) > 0) = true := by simp only [decide_eq_true_eq]; omega
        have hq := tPower (s.drop (wholeN s + 1 + digs (s.drop (wholeN s + 1)))) (by rw [List.length_drop]; omega)
        have hql := powN_le (s.drop (wholeN s + 1 + digs (s.drop (wholeN s + 1))))
        rw [List.length_drop] at hql
        by_cases c3 : powN (s.drop (wholeN s + 1 + digs (s.drop (wholeN s + 1)))) = 0
        · have e3 : decide ((powN (s.drop (wholeN s + 1 + digs (s.drop (wholeN s + 1)))) : Int) > 0) = false := by simp only [decide_eq_false_iff_not]; omega
          repeat' first | refine .s1 ?_ | (refine .q ?_ ?_ <;> intro hc) | refine A.call rfl hw (WeakL.refl _) ?_ | refine A.slice_s (wholeN s) s.length rfl rfl rfl rfl rfl rfl rfl (by omega) (by omega) (by rw [List.take_length]) ?_ | refine A.slice_s (wholeN s + 1) s.length rfl rfl rfl rfl rfl rfl rfl (by omega) (by omega) (by rw [List.take_length]) ?_ | refine A.slice_s (wholeN s + 1 + digs (s.drop (wholeN s + 1))) s.length rfl rfl rfl rfl rfl rfl rfl (by omega) (by omega) (by rw [List.take_length]) ?_ | refine A.call rfl hp (WeakL.refl _) ?_ | refine A.call rfl hd (WeakL.refl _) ?_ | refine A.call rfl hq (WeakL.refl _) ?_ | fail
          refine Fin.two rfl rfl (Weak.eq ?_)
          rw [if_pos c3]; rfl
        · have e3 : decide ((powN (s.drop (wholeN s + 1 + digs (s.drop (wholeN s + 1)))) : Int) > 0) = true := by simp only [decide_eq_true_eq]; omega
          repeat' first | refine .s1 ?_ | (refine .q ?_ ?_ <;> intro hc) | refine A.call rfl hw (WeakL.refl _) ?_ | refine A.slice_s (wholeN s) s.length rfl rfl rfl rfl rfl rfl rfl (by omega) (by omega) (by rw [List.take_length]) ?_ | refine A.slice_s (wholeN s + 1) s.length rfl rfl rfl rfl rfl rfl rfl (by omega) (by omega) (by rw [List.take_length]) ?_ | refine A.slice_s (wholeN s + 1 + digs (s.drop (wholeN s + 1))) s.length rfl rfl rfl rfl rfl rfl rfl (by omega) (by omega) (by rw [List.take_length]) ?_ | refine A.call rfl hp (WeakL.refl _) ?_ | refine A.call rfl hd (WeakL.refl _) ?_ | refine A.call rfl hq (WeakL.refl _) ?_ | fail
          refine Fin.two rfl rfl (Weak.eq ?_)
          rw [if_neg c3]; rfl
    · rw [if_neg c1]
      have c1' : pfx [46] (s.drop (wholeN s)) = false := by simpa using c1
      have hq := tPower (s.drop (wholeN s)) (by rw [List.length_drop]; omega)
      have hql := powN_le (s.drop (wholeN s))
      rw [List.length_drop] at hql
      by_cases c3 : powN (s.drop (wholeN s)) = 0
      · have e3 : decide ((powN (s.drop (wholeN s)) : Int) > 0) = false := by simp only [decide_eq_false_iff_not]; omega
        repeat' first | refine .s1 ?_ | (refine .q ?_ ?_ <;> intro hc) | refine A.call rfl hw (WeakL.refl _) ?_ | refine A.slice_s (wholeN s) s.length rfl rfl rfl rfl rfl rfl rfl (by omega) (by omega) (by rw [List.take_length]) ?_ | refine A.call rfl hp (WeakL.refl _) ?_ | refine A.call rfl hq (WeakL.refl _) ?_ | fail
        refine Fin.two rfl rfl (Weak.eq ?_)
        rw [if_pos c3]
      · have e3 : decide ((powN (s.drop (wholeN s)) : Int) > 0) = true := by simp only [decide_eq_true_eq]; omega
        repeat' first | refine .s1 ?_ | (refine .q ?_ ?_ <;> intro hc) | refine A.call rfl hw (WeakL.refl _) ?_ | refine A.slice_s (wholeN s) s.length rfl rfl rfl rfl rfl rfl rfl (by omega) (by omega) (by rw [List.take_length]) ?_ | refine A.call rfl hp (WeakL.refl _) ?_ | refine A.call rfl hq (WeakL.refl _) ?_ | fail
        refine Fin.two rfl rfl (Weak.eq ?_)
        rw [if_neg c3]; rfl
def numOf (s : Str) : Int := if (numK s).1 = s.length then (numK s).2 else 0
theorem tNumber (s : Str) (hs : s.length ≤ 4611686018427387904) : PFn Tryz.prog 232 [.str s] (.int .i64 (numOf s)) := by
  refine AFn.plain rfl rfl (AFn.en [2] Tryz.func232 ?_)
  have hn := tnumber s hs
  unfold numOf
  by_cases c : (numK s).1 = s.length
  · have e : (((numK s).1 : Int) != (s.length : Int)) = false := by rw [c]; simp
    repeat' first | refine .s1 ?_ | (refine .q ?_ ?_ <;> intro hc) | refine A.call rfl hn (WeakL.refl _) ?_ | fail
    refine Fin.ret1 rfl (Weak.eq ?_)
    rw [if_pos c]
  · have e : (((numK s).1 : Int) != (s.length : Int)) = true := by simp; omega
    repeat' first | refine .s1 ?_ | (refine .q ?_ ?_ <;> intro hc) | refine A.call rfl hn (WeakL.refl _) ?_ | fail
    refine Fin.ret1 rfl (Weak.eq ?_)
    rw [if_neg c]
theorem vWhole (s : Str) (hs : s.length ≤ 281474976710656) : PFn Tryz.prog 233 [.str s] (.tup [.int .i64 (intOf s), .bool (intIs s && (numOf s == 3))]) := by
  refine AFn.plain rfl rfl (AFn.en [2, 3] Tryz.func233 ?_)
  have hn := tNumber s (by omega)
  have hp := scParse s hs
  by_cases c : intIs s = true
  · have e : intErr s = .nili := by
      unfold intIs at c; unfold intErr
      cases h : Lib.parseIntB 64 s <;> simp_all
    rw [e] at hp
    repeat' first | refine .s1 ?_ | (refine .q ?_ ?_ <;> intro hc) | refine A.call rfl hp (WeakL.refl _) ?_ | refine A.call rfl hn (WeakL.refl _) ?_ | refine A.eqnil rfl rfl rfl rfl ?_ | fail
    refine Fin.two rfl rfl (Weak.eq ?_)
    rw [c]; rfl
  · have e : intErr s = .iface 320 .undef := by
      unfold intIs at c; unfold intErr
      cases h : Lib.parseIntB 64 s <;> simp_all
    have c' : intIs s = false := by simpa using c
    rw [e] at hp
    repeat' first | refine .s1 ?_ | (refine .q ?_ ?_ <;> intro hc) | refine A.call rfl hp (WeakL.refl _) ?_ | refine A.call rfl hn (WeakL.refl _) ?_ | refine A.eqnil rfl rfl rfl rfl ?_ | fail
    refine Fin.two rfl rfl (Weak.eq ?_)
    rw [c']; rfl
def numB (s : Str) : Bool := numOf s == 4 || numOf s == 3 && !(intIs s && (numOf s == 3))
theorem vnum (s : Str) (hs : s.length ≤ 281474976710656) : PFn Tryz.prog 215 [.str s] (.bool (numB s)) := by
  refine AFn.plain rfl rfl (AFn.en [2] Tryz.func215 ?_)
  have hn := tNumber s (by omega)
  have hw := vWhole s hs
  unfold numB
  repeat' first | refine .s1 ?_ | (refine .q ?_ ?_ <;> intro hc) | refine A.call rfl hn (WeakL.refl _) ?_ | refine A.call rfl hw (WeakL.refl _) ?_ | fail
  all_goals
    refine Fin.rb ?_
    simp_all
def resB (s : Str) : Bool := s == [116, 114, 117, 101] || s == [102, 97, 108, 115, 101] || s == [110, 117, 108, 108]
theorem vreserved (s : Str) : PFn Tryz.prog 216 [.str s] (.bool (resB s)) := by
  refine AFn.plain rfl rfl (AFn.en [2] Tryz.func216 ?_)
  unfold resB
  repeat' first | refine .s1 ?_ | (refine .q ?_ ?_ <;> intro hc) | fail
  all_goals
    refine Fin.rb ?_
    simp_all
end Go.Proofs.YtmfmdehfbpkgdaaGreatDoor
namespace Go.Proofs.YtmfmdehfbpkgdaaGreatDoor
open Go Go.Av
def good (s : Str) : Bool := Lib.validD s
theorem validString (s : Str) (hs : s.length ≤ 9223372036854775807) : PFn Tryz.prog 202 [.str s] (.bool (good s)) := by
  refine PFn.ofBelow ⟨_, Tryz.func202, rfl, rfl⟩ rfl (fun im w vals him hgl hl => ?_)
  obtain ⟨v, rest, e, hv, hr⟩ := hl
  have hv' : v = .string ⟨s.toArray⟩ := hv
  have hr' : rest = [] := hr
  subst hv'; subst hr'
  obtain rfl : vals = #[.string ⟨s.toArray⟩] := by cases vals; simp_all
  have h3 := GlobOk.rep (g := ⟨[], [], im⟩) hgl (p := (0, .agg (Lib.firstTab.map (AV.int .u8)))) (.head _)
  have h4 := GlobOk.rep (g := ⟨[], [], im⟩) hgl (p := (1, .agg (accTab.map (AV.int .u8)))) (.tail _ (.head _))
  refine (Tryz.utf8_ValidString ⟨s.toArray⟩ w (by simpa [ByteArray.size] using hs) (utf8_tabs h3 h4)).mono ?_
  rintro e w' ⟨rfl, hb⟩
  exact ⟨⟨_, rfl, rfl⟩, hb⟩
attribute [local irreducible] HCode AOps PFn AFn Av.Step TStep
theorem lgood (s : Str) (hs : s.length ≤ 9223372036854775807) : PFn Tryz.prog 178 [.str s] (.bool (good s)) := by
  have hv := validString s hs
  refine AFn.plain rfl rfl (AFn.en [2] Tryz.func178 ?_)
  repeat' first | refine .s1 ?_ | (refine .q ?_ ?_ <;> intro hc) | refine A.call rfl hv (WeakL.refl _) ?_ | fail
  exact Fin.r0
end Go.Proofs.YtmfmdehfbpkgdaaGreatDoor
namespace Go.Proofs.YtmfmdehfbpkgdaaGreatDoor
open Go Go.Av
attribute [local irreducible] HCode AOps PFn AFn Av.Step TStep
theorem vbare (k n : Int) (s : Str) (xs ys : List AV) (t1 t2 : Tk) (hx : (AV.slice xs t1).closed = true) (hy : (AV.slice ys t2).closed = true) :
    PFn Tryz.prog 201 [.agg [.int .i64 k, .int .i64 n, .str s, .slice xs t1, .slice ys t2]] (.bool (n == 0 && s == [] && decide (xs.length = 0) && decide (ys.length = 0))) := by
  refine AFn.plain rfl (by simp only [AV.closedL, AV.closed] at hx hy ⊢; rw [hx, hy]; rfl) (AFn.en [2] Tryz.func201 ?_)
  repeat' first | refine A.box_r rfl rfl ?_ | refine .s1 ?_ | (refine .q ?_ ?_ <;> intro hc) | fail
  all_goals
    refine Fin.rb ?_
    rw [Bool.eq_iff_iff]
    simp_all
def singleB (v : Val) : Bool := decide (v.l.length = 0) && decide (v.m.length = 0) &&
  (if v.kind = 0 then v.n == 0 && v.s == [] else if v.kind = 1 then (v.n == 0 || v.n == 1) && v.s == [] else if v.kind = 2 then v.s == [] else if v.kind = 3 then v.n == 0 && numB v.s
    else if v.kind = 4 then v.n == 0 && good v.s else if v.kind = 5 then v.n == 0 && nameB v.s && !resB v.s else if v.kind = 8 then v.n == 0 && nameB v.s else false)
theorem vsingle (v : Val) (hv : v.size ≤ 68719476736) : PFn Tryz.prog 200 [v.enc] (.bool (singleB v)) := by
  refine AFn.plain rfl (by simp [AV.closedL, Val.closed]) (AFn.en [2] Tryz.func200 ?_)
  have hsz := v.size_eq
  have hb := vbare v.kind 0 [] v.lv v.mv .no .no (by simp only [AV.closed, v.lv_closed]; rfl) (by simp only [AV.closed, v.mv_closed]; rfl)
  have h3 := vnum v.s (by omega)
  have h4 := lgood v.s (by omega)
  have h5 := lName v.s (by omega)
  have h6 := vreserved v.s
  rw [v.lv_len, v.mv_len] at hb
  have h0 : ((0 : Int) == 0 && ([] : Str) == [] && decide (v.l.length = 0) && decide (v.m.length = 0)) = (decide (v.l.length = 0) && decide (v.m.length = 0)) := by simp
  rw [h0] at hb
  unfold singleB
  by_cases c0 : (decide (v.l.length = 0) && decide (v.m.length = 0)) = true
  · have e0 : (!(decide (v.l.length = 0) && decide (v.m.length = 0))) = false := by rw [c0]; rfl
    rw [c0]
    repeat' first | refine A.box_r rfl rfl ?_ | refine .s1 ?_ | (refine .q ?_ ?_ <;> intro hc) | refine A.call rfl hb (WeakL.refl _) ?_ | refine A.call rfl h3 (WeakL.refl _) ?_ | refine A.call rfl h4 (WeakL.refl _) ?_ | refine A.call rfl h5 (WeakL.refl _) ?_ | refine A.call rfl h6 (WeakL.refl _) ?_ | fail
    all_goals
      refine Fin.rb ?_
      simp_all
  · have c0' : (decide (v.l.length = 0) && decide (v.m.length = 0)) = false := by simpa using c0
    have e0 : (!(decide (v.l.length = 0) && decide (v.m.length = 0))) = true := by rw [c0']; rfl
    rw [c0']
    repeat' first | refine A.box_r rfl rfl ?_ | refine .s1 ?_ | (refine .q ?_ ?_ <;> intro hc) | refine A.call rfl hb (WeakL.refl _) ?_ | fail
    refine Fin.rb ?_
    rfl
section
variable (g : Str → Bool)
mutual
def allV : Val → Bool
  | .mk k n s l m => if k = 6 then allL l && (n == 0 && s == [] && decide (m.length = 0)) else if k = 7 then allM m && (n == 0 && s == [] && decide (l.length = 0)) else singleB (.mk k n s l m)
def allL : List Val → Bool
  | [] => true
  | v :: l => allV v && allL l
def allM : List Mem → Bool
  | [] => true
  | .mk n v :: l => (g n && allV v) && allM l
end
theorem allV_eq (v : Val) : allV g v = if v.kind = 6 then allL g v.l && (v.n == 0 && v.s == [] && decide (v.m.length = 0)) else if v.kind = 7 then allM g v.m && (v.n == 0 && v.s == [] && decide (v.l.length = 0)) else singleB v := by
  cases v; rw [allV]; rfl
theorem allL_drop {l : List Val} {k : Nat} (h : k < l.length) : allL g (l.drop k) = (allV g l[k] && allL g (l.drop (k + 1))) := by
  rw [List.drop_eq_getElem_cons h, allL]
theorem allM_drop {l : List Mem} {k : Nat} (h : k < l.length) : allM g (l.drop k) = ((g l[k].name && allV g l[k].v) && allM g (l.drop (k + 1))) := by
  rw [List.drop_eq_getElem_cons h]
  cases l[k]; rw [allM]; rfl
end
theorem Mem.name_len {v : Val} {k : Nat} (h : k < v.m.length) : v.m[k].name.length ≤ v.size := by
  have := sumSize_mem (size := Mem.size) (List.getElem_mem h)
  have h2 : v.m[k].size = v.m[k].name.length + 2 + v.m[k].v.size := rfl
  rw [v.size_eq]; omega
theorem vall (F : FuncId) (g : Str → Bool) (hF : ∀ s : Str, s.length ≤ 68719476736 → PFn Tryz.prog F [.str s] (.bool (g s))) : ∀ N : Nat, N ≤ 68719476736 → ∀ v : Val, v.size ≤ N → PFn Tryz.prog 177 [v.enc, .fn (.func F) [] []] (.bool (allV g v))
  | 0, _, v, hv => absurd hv (by have := v.size_pos; omega)
  | N + 1, hN, v, hv => by
    have ih := vall F g hF N (by omega)
    refine AFn.plain rfl (by simp [AV.closedL, AV.closed, Val.closed]) (AFn.en [4] Tryz.func177 ?_)
    have hll := v.l_len
    have hml := v.m_len
    rw [allV_eq]
    by_cases c6 : v.kind = 6
    · have e6 : (v.kind == 6) = true := by rw [c6]; rfl
      rw [if_pos c6]
      have hb := vbare v.kind v.n v.s [] v.mv .nil .no rfl (by simp only [AV.closed, v.mv_closed]; rfl)
      rw [v.mv_len] at hb
      repeat' first | refine A.box_r rfl rfl ?_ | refine .s1 ?_ | (refine .q ?_ ?_ <;> intro hc) | fail
      change HCode _ _ _ _ _ _ _
      refine HCode.loop (fun n s σ => ∃ k : Nat, n = v.l.length - k ∧ k ≤ v.l.length ∧ allL g v.l = allL g (v.l.drop k) ∧ σ = ⟨[Ob.cells [.int .i64 v.kind, .int .i64 v.n, .str v.s, .slice [] .nil, .slice v.mv .no]], []⟩ ∧
        s = [(22, .int .i64 k), (21, .int .i64 v.lv.length), (20, .slice v.lv .no), (6, .bool true), (5, .ptr 0 0), (1, .fn (.func F) [] [])])
        (s0 := [(22, .int .i64 (0 : Nat)), (21, .int .i64 v.lv.length), (20, .slice v.lv .no), (6, .bool true), (5, .ptr 0 0), (1, .fn (.func F) [] [])])
        ⟨rfl, rfl, rfl, rfl, rfl, rfl, trivial⟩ ⟨0, rfl, Nat.zero_le _, rfl, rfl, rfl⟩ ?_
      rintro n s σ ⟨k, rfl, hk, hp, rfl, rfl⟩
      by_cases h1 : k < v.l.length
      · have d1 : decide ((k : Int) < (v.lv.length : Int)) = true := by rw [v.lv_len]; simp [h1]
        have x1 := Val.lv_get h1
        have hc := ih v.l[k] (by have := Val.size_l h1; omega)
        by_cases c : allV g v.l[k] = true
        · have e1 : (!allV g v.l[k]) = false := by rw [c]; rfl
          repeat' first | refine .s1 ?_ | (refine .q ?_ ?_ <;> intro hc) | refine A.call rfl hc (WeakL.refl _) ?_ | fail
          refine ⟨v.l.length - (k + 1), by omega, [(22, .int .i64 ((k + 1 : Nat) : Int)), (21, .int .i64 v.lv.length), (20, .slice v.lv .no), (6, .bool true), (5, .ptr 0 0), (1, .fn (.func F) [] [])],
            ⟨rfl, rfl, rfl, congrArg AV.bool c, rfl, rfl, trivial⟩, by simp [belowS, AV.low, AV.lowL, Val.lv_low], by simp [belowB, belowT, Ob.low, AV.low, AV.lowL, Val.mv_low], k + 1, rfl, by omega, by rw [hp, allL_drop g h1, c]; rfl, rfl, rfl⟩
        · have c' : allV g v.l[k] = false := by simpa using c
          have e1 : (!allV g v.l[k]) = true := by rw [c']; rfl
          repeat' first | refine .s1 ?_ | (refine .q ?_ ?_ <;> intro hc) | refine A.call rfl hc (WeakL.refl _) ?_ | fail
          refine Fin.rb ?_
          rw [hp, allL_drop g h1, c']; rfl
      · have d1 : decide ((k : Int) < (v.lv.length : Int)) = false := by rw [v.lv_len]; simp; omega
        repeat' first | refine .s1 ?_ | (refine .q ?_ ?_ <;> intro hc) | refine A.call rfl hb (WeakL.refl _) ?_ | fail
        refine Fin.rb ?_
        rw [hp, List.drop_eq_nil_of_le (by omega), allL]
        simp
    · have e6 : (v.kind == 6) = false := by simpa using c6
      rw [if_neg c6]
      by_cases c7 : v.kind = 7
      · have e7 : (v.kind == 7) = true := by rw [c7]; rfl
        rw [if_pos c7]
        have hb := vbare v.kind v.n v.s v.lv [] .no .nil (by simp only [AV.closed, v.lv_closed]; rfl) rfl
        rw [v.lv_len] at hb
        repeat' first | refine A.box_r rfl rfl ?_ | refine .s1 ?_ | (refine .q ?_ ?_ <;> intro hc) | fail
        change HCode _ _ _ _ _ _ _
        refine HCode.loop (fun n s σ => ∃ k : Nat, n = v.m.length - k ∧ k ≤ v.m.length ∧ allM g v.m = allM g (v.m.drop k) ∧ σ = ⟨[Ob.cells [.int .i64 v.kind, .int .i64 v.n, .str v.s, .slice v.lv .no, .slice [] .nil]], []⟩ ∧
          s = [(38, .int .i64 k), (37, .int .i64 v.mv.length), (36, .slice v.mv .no), (6, .bool true), (5, .ptr 0 0), (1, .fn (.func F) [] [])])
          (s0 := [(38, .int .i64 (0 : Nat)), (37, .int .i64 v.mv.length), (36, .slice v.mv .no), (6, .bool true), (5, .ptr 0 0), (1, .fn (.func F) [] [])])
          ⟨rfl, rfl, rfl, rfl, rfl, rfl, trivial⟩ ⟨0, rfl, Nat.zero_le _, rfl, rfl, rfl⟩ ?_
        rintro n s σ ⟨k, rfl, hk, hp, rfl, rfl⟩
        by_cases h1 : k < v.m.length
        · have d1 : decide ((k : Int) < (v.mv.length : Int)) = true := by rw [v.mv_len]; simp [h1]
          have x1 := Val.mv_get h1
          have hc := ih v.m[k].v (by have := Val.size_m h1; omega)
          have hf := hF v.m[k].name (by have := Mem.name_len h1; omega)
          by_cases c0 : g v.m[k].name = true
          · by_cases c : allV g v.m[k].v = true
            · have e1 : (!allV g v.m[k].v) = false := by rw [c]; rfl
              repeat' first | refine .s1 ?_ | (refine .q ?_ ?_ <;> intro hc) | refine A.call rfl hc (WeakL.refl _) ?_ | refine A.callv rfl rfl hf (WeakL.refl _) ?_ | fail
              refine ⟨v.m.length - (k + 1), by omega, [(38, .int .i64 ((k + 1 : Nat) : Int)), (37, .int .i64 v.mv.length), (36, .slice v.mv .no), (6, .bool true), (5, .ptr 0 0), (1, .fn (.func F) [] [])],
                ⟨rfl, rfl, rfl, congrArg AV.bool c, rfl, rfl, trivial⟩, by simp [belowS, AV.low, AV.lowL, Val.mv_low], by simp [belowB, belowT, Ob.low, AV.low, AV.lowL, Val.lv_low], k + 1, rfl, by omega, by rw [hp, allM_drop g h1, c0, c]; rfl, rfl, rfl⟩
            · have c' : allV g v.m[k].v = false := by simpa using c
              have e1 : (!allV g v.m[k].v) = true := by rw [c']; rfl
              repeat' first | refine .s1 ?_ | (refine .q ?_ ?_ <;> intro hc) | refine A.call rfl hc (WeakL.refl _) ?_ | refine A.callv rfl rfl hf (WeakL.refl _) ?_ | fail
              refine Fin.rb ?_
              rw [hp, allM_drop g h1, c', c0]; rfl
          · have c0' : g v.m[k].name = false := by simpa using c0
            repeat' first | refine .s1 ?_ | (refine .q ?_ ?_ <;> intro hc) | refine A.call rfl hc (WeakL.refl _) ?_ | refine A.callv rfl rfl hf (WeakL.refl _) ?_ | fail
            refine Fin.rb ?_
            rw [hp, allM_drop g h1, c0']; rfl
        · have d1 : decide ((k : Int) < (v.mv.length : Int)) = false := by rw [v.mv_len]; simp; omega
          repeat' first | refine .s1 ?_ | (refine .q ?_ ?_ <;> intro hc) | refine A.call rfl hb (WeakL.refl _) ?_ | fail
          refine Fin.rb ?_
          rw [hp, List.drop_eq_nil_of_le (by omega), allM]
          simp
      · have e7 : (v.kind == 7) = false := by simpa using c7
        rw [if_neg c7]
        have hs := vsingle v (by omega)
        repeat' first | refine A.box_r rfl rfl ?_ | refine .s1 ?_ | (refine .q ?_ ?_ <;> intro hc) | refine A.call rfl hs (WeakL.refl _) ?_ | fail
        exact Fin.r0
theorem vGood (v : Val) (hv : v.size ≤ 68719476736) : PFn Tryz.prog 149 [v.enc] (.bool (allV good v)) := by
  have h := vall 178 good (fun s hs => lgood s (by omega)) v.size hv v (Nat.le_refl _)
  refine AFn.plain rfl (by simp [AV.closedL, Val.closed]) (AFn.en [2] Tryz.func149 ?_)
  repeat' first | refine A.box_r rfl rfl ?_ | refine .s1 ?_ | (refine .q ?_ ?_ <;> intro hc) | refine A.call rfl h (WeakL.refl _) ?_ | fail
  exact Fin.r0
end Go.Proofs.YtmfmdehfbpkgdaaGreatDoor
namespace Go.Proofs.YtmfmdehfbpkgdaaGreatDoor
open Go Go.Av
attribute [local irreducible] HCode AOps PFn AFn Av.Step TStep
def val0 : Val := .mk 0 0 [] [] []
def intV (n : Int) : Val := .mk 2 n [] [] []
def textV (s : Str) : Val := .mk 4 0 s [] []
def getG (name : Str) : List Mem → Val × Bool
  | [] => (val0, false)
  | m :: l => if m.name == name then (m.v, true) else getG name l
theorem getG_drop {name : Str} {l : List Mem} {k : Nat} (h : k < l.length) : getG name (l.drop k) = if l[k].name == name then (l[k].v, true) else getG name (l.drop (k + 1)) := by
  rw [List.drop_eq_getElem_cons h, getG]
theorem lv_mk (k n : Int) (s : Str) (m : List Mem) : (Val.mk k n s [] m).lv = [] := by rw [Val.lv, Val.goL]
theorem mv_mk (k n : Int) (s : Str) (l : List Val) : (Val.mk k n s l []).mv = [] := by rw [Val.mv, Val.goM]
theorem weak_flatV {k n : Int} {s : Str} {t1 t2 : Tk} : Weak (.agg [.int .i64 k, .int .i64 n, .str s, .slice [] t1, .slice [] t2]) (Val.mk k n s [] []).enc := by
  unfold Val.enc
  rw [lv_mk, mv_mk]
  exact Weak.agg (WeakL.cons (Weak.refl _) (WeakL.cons (Weak.refl _) (WeakL.cons (Weak.refl _) (WeakL.cons (Weak.no (WeakL.refl _)) (WeakL.cons (Weak.no (WeakL.refl _)) (WeakL.refl _))))))
def zeroV : List AV := [.int .i64 0, .int .i64 0, .str [], .slice [] .nil, .slice [] .nil]
theorem get (name : Str) (l : List Mem) (hl : l.length ≤ 9223372036854775807) : PFn Tryz.prog 72 [.str name, .slice (l.map Mem.enc) .no] (.tup [(getG name l).1.enc, .bool (getG name l).2]) := by
  refine AFn.plain (by simp [AV.closed, AV.closedL, Val.closed]) (by simp [AV.closed, AV.closedL, Mem.closedL]) (AFn.eR [.cell 4 38, .tmp 5] Tryz.func72 ?_)
  refine .go ?_
  change HCode _ _ _ _ _ _ _
  refine HCode.loop (fun n s σ => ∃ k : Nat, n = l.length - k ∧ k ≤ l.length ∧ getG name l = getG name (l.drop k) ∧ σ = ⟨[.cells zeroV], []⟩ ∧
    s = [(10, .int .i64 k), (9, .int .i64 l.length), (8, .slice (l.map Mem.enc) .no), (0, .str name), (4, .ptr 0 0)])
    (s0 := [(10, .int .i64 (0 : Nat)), (9, .int .i64 l.length), (8, .slice (l.map Mem.enc) .no), (0, .str name), (4, .ptr 0 0)])
    ⟨rfl, rfl, rfl, rfl, rfl, trivial⟩ ⟨0, rfl, Nat.zero_le _, rfl, rfl, rfl⟩ ?_
  rintro n s σ ⟨k, rfl, hk, hp, rfl, rfl⟩
  by_cases h1 : k < l.length
  · have d1 : decide ((k : Int) < (l.length : Int)) = true := by simp [h1]
    have x1 := map_get' (f := Mem.enc) h1
    repeat' first | refine .s1 ?_ | (refine .q ?_ ?_ <;> intro hc) | fail
    · refine FinR.ret1 rfl (Weak.eq ?_)
      rw [hp, getG_drop h1, if_pos hc]; rfl
    · refine ⟨l.length - (k + 1), by omega, [(10, .int .i64 ((k + 1 : Nat) : Int)), (9, .int .i64 l.length), (8, .slice (l.map Mem.enc) .no), (0, .str name), (4, .ptr 0 0)],
        ⟨rfl, rfl, rfl, rfl, rfl, trivial⟩, by simp [belowS, AV.low, Mem.lowL], rfl, k + 1, rfl, by omega, by rw [hp, getG_drop h1, if_neg (by simp [hc])], rfl, rfl⟩
  · have d1 : decide ((k : Int) < (l.length : Int)) = false := by simp; omega
    refine .go ?_
    refine FinR.ret1 rfl ?_
    rw [hp, List.drop_eq_nil_of_le (by omega), getG]
    exact Weak.tup (WeakL.cons weak_flatV (WeakL.refl _))
theorem text (n : Str) : PFn Tryz.prog 70 [.str n] (textV n).enc := by
  refine AFn.plain (Val.closed _) rfl (AFn.eR [.cell 2 38] Tryz.func70 ?_)
  refine .go ?_
  exact FinR.ret1 rfl weak_flatV
end Go.Proofs.YtmfmdehfbpkgdaaGreatDoor
